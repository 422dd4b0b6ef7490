import Derived.Test.YtmggphnhfegffaaE10
set_option linter.unusedVariables false
set_option linter.unusedSimpArgs false
set_option maxRecDepth 20000
set_option maxHeartbeats 4000000
namespace Go.AX
open Go.Proofs
attribute [local simp] take_map_len subE subH eget hget upE upV upH upO_refl upO_box upVs freshE freshH freshO AV.ids AV.idsL ids_box ids_arr frE frV_refl frV_arr frH frO_refl frO_box frVs newOk evalA AV.viewXs AV.viewX AV.viewXP AV.viewXPs AV.viewPs AV.viewP AV.flat AV.flatL D.flat arrsOnly flatObjs newNames subOf closedIn allSome dstOk newOrOld avD avDp zv_i64 zv_u8 zv_bool zv_nils zv_nilp zv_str retAV aLoad cut TI.isAgg nlE nlH nlO_refl nlO_box nlVs nlV_refl nlV_nil iD uD bD tD lD List.map_set ti2 ti3 ti4 ti5 ti6 ti7 ti8 ti9 ti10 ti11 ti12 ti13 ti14 ti15 ti16 ti17 ti18 ti19 ti21 ti22 ti23 ti25 ti26 ti27 ti31 ti32 ti41 ti51 ti52 ti53 ti54 ti56 ti58 ti60 ti61 ti62 ti67 ti68 ti71 ti72 ti79 ti80 ti81 ti82 ti83 ti84 ti85 ti89 ti93 ti94 ti95 ti110 ti124 ti125 ti126 ti127 ti128 ti129 ti130 ti131 ti133 ti134 ti135 ti136 ti137 Row.D TRange.D Ref.D Form.D Part.D TItem.D
attribute [local go_sem] V1_none V1_some V_nil V_move V_assign V_pick V_bin V_un V_extract V_makeFunc V_convert V_nilCheck V_fieldAddr V_field V_load V_store V_indexAddr V_index V_slice V_slice0 V_alloc V_box V_build V_buildSlice V_makeSlice V_len V_min V_max V_append V_call V_guard VGs_some VG_tt VG_ff VG_tf VG_ft VG_u gslot ok fail po so aNew dstOk freshU addLog_none' addLog_some' St.step putL evalA eget hget argE freshE freshO freshH AV.ids AV.idsL AV.ok1 AV.cells ids_box ids_arr liveBox liveArr isArr aPick aBin aUn aExtract aMakeFunc aConvert aNilCheck aFieldAddr aField cut aLen aIndexAddr aMin aMax aIndex bnd isInt aSlice aSlice0 aLoad aAlloc aBox aStore splice aMake updIds newIds zv_i64 zv_u8 zv_bool zv_nils zv_nilp cond_bool cond_int TI.isAgg TK.isSl TK.el okL avDps avDp avD List.map_cons List.map_nil List.append_nil List.nil_append List.cons_append List.length_cons List.length_nil List.take_succ_cons List.take_zero List.drop_succ_cons List.drop_zero List.take_nil List.drop_nil List.headD_cons List.getD_cons_zero List.getD_cons_succ List.mem_cons List.not_mem_nil List.getElem?_cons_zero List.getElem?_cons_succ List.toList_toArray Option.getD_some Option.getD_none Option.bind_some Option.bind_none Option.map_some Option.map_none Option.getD Option.toList Nat.zero_add Nat.add_zero Nat.zero_le Nat.le_refl if_true if_false ite_self true_and and_true false_and and_false true_or or_true false_or or_false not_true_eq_false not_false_eq_true ne_eq cond_true cond_false Bool.true_eq_false Bool.false_eq_true forall_const decide_true decide_false implies_true true_implies and_self or_self Nat.succ_ne_zero Int.toNat_natCast Int.natCast_nonneg List.length_map decide_eq_true_eq AV.views AV.view AV.viewPs AV.viewP arrsOnly newNames List.length_append List.append_assoc Bool.not_true Bool.not_false AV.ok2 aBuild fillR fillP aBuildSlice dense elP aAppend esOf esOfP List.forall_mem_cons forall_eq_or_imp forall_eq zD zDp map_take' map_drop' iD uD bD tD lD iD_len uD_len bD_len tD_len lD_len LB Int.cast_ofNat_Int Int.natCast_zero Int.natCast_one head_len all_len List.head?_cons List.head?_nil Bool.not_not eq_self List.take_length zv_str aConv byteOf isByte map_bcell bytes_all str_map cellsEq cellsP AV.kd Bool.and_true Bool.true_and Bool.and_false Bool.false_and ti2 ti3 ti4 ti5 ti6 ti7 ti8 ti9 ti10 ti11 ti12 ti13 ti14 ti15 ti16 ti17 ti18 ti19 ti21 ti22 ti23 ti25 ti26 ti27 ti31 ti32 ti41 ti51 ti52 ti53 ti54 ti56 ti58 ti60 ti61 ti62 ti67 ti68 ti71 ti72 ti79 ti80 ti81 ti82 ti83 ti84 ti85 ti89 ti93 ti94 ti95 ti110 ti124 ti125 ti126 ti127 ti128 ti129 ti130 ti131 ti133 ti134 ti135 ti136 ti137 Row.D TRange.D Ref.D Form.D Part.D TItem.D Row.D_len TRange.D_len Ref.D_len Form.D_len Part.D_len TItem.D_len zs_ zs_48_49_50_51_52_53_54_55_56_57_48_49_50_51_52_53_54_55_56_57_48_49_50_51_52_53_54_55_56_57_48_49_50_51_52_53_54_55_56_57_120 zs_113 zs_116_97_98_9 eqf85_00
noncomputable def ref06_Total_l0 (v4 : List Part) (v17 : Int) (v18 : Int) : Option ((Int × Int) ⊕ (Int)) :=
  bif decide (v18 < (v4.length : Int)) then ((rd v4 v18).bind fun v20 => contO ((IntKind.i64.wrap (v17 + v20.Max), IntKind.i64.wrap (v18 + 1)) : Int × Int)) else (exitO (some (v17 : Int)))
noncomputable def ref06_Total (v1 : Int) (v2 : Int) (v3 : List UInt8) (v4 : List Part) (v5 : List Int) : Option (Int) :=
  (ref06_Check v1 v2 v3 v4 v5).bind fun v15 => bif decide (¬ v15 = 0) then (some (0 : Int)) else (iter (fun g : Int × Int => ref06_Total_l0 v4 g.1 g.2) (0, 0))
theorem ref06_Total_ok (v1 : Int) (v2 : Int) (v3 : List UInt8) (v4 : List Part) (v5 : List Int) (r : Int) (hx : ref06_Total v1 v2 v3 v4 v5 = some r) :
    ACalls Try.prog 81 [.agg [.d (.int .i64 v1), .d (.int .i64 v2), .d (.str v3), .d (.sl (List.map Part.D v4)), .d (.sl (List.map iD v5))]] [] (.d (.int .i64 r)) [] := by
  refine ACalls.of_sem (n := 24) 0 [2] (fn := Try.f81) Try.func81 rfl rfl (.one rfl) rfl (by simp) (by intro i; simp only [hget]; (repeat' split) <;> simp <;> omega) ?_
  unfold ref06_Total at hx
  refine Walk.seq (Walk.region' rfl fun K hK => ?_)
  simp only [go_sem, seval]
  refine hK _ ?_
  clear hK K
  refine Walk.seq (Walk.seq (Walk.region' rfl fun K hK => ?_))
  obtain ⟨v15, h33, hx⟩ := bind_elim hx
  simp only [go_sem, seval]
  refine VCl.pure rfl (by simp only [go_sem, seval]; try simp) (ref06_Check_ok v1 v2 v3 v4 v5 _ h33) (by simp only [go_sem, seval]; try simp) (by simp only [go_sem, seval]; try simp) (by simp only [go_sem, seval]; try simp) (by simp only [go_sem, seval]; try simp) (by simp only [go_sem, seval]; try simp) (by simp only [go_sem, seval]; try simp) ?_
  simp only [go_sem, seval]
  refine hK _ ?_
  clear hK K
  refine Walk.condO rfl hx (fun c35 hx => ?_) (fun c35 hx => ?_)
  · refine Walk.seq (Walk.region' rfl fun K hK => ?_)
    simp only [go_sem, seval, c35]
    refine hK _ ?_
    clear hK K
    obtain rfl := Option.some.inj hx
    exact Walk.ret ⟨by simp [c35], by simp [c35]⟩
  refine Walk.skip (Walk.seq (Walk.region' rfl fun K hK => ?_))
  simp only [go_sem, seval, c35]
  refine hK _ ?_
  clear hK K
  refine Walk.seq (Walk.seq (Walk.region' rfl fun K hK => ?_))
  simp only [go_sem, seval, c35]
  refine hK _ ?_
  clear hK K
  refine Walk.block (Walk.loop ?_)
  refine Walk.weaken ⟨[(1, .box 1 0), (3, .d (.int .i64 0)), (4, .d (.int .i64 0))], [(1, some (.box [.d (.int .i64 v1), .d (.int .i64 v2), .d (.str v3), .d (.sl (List.map Part.D v4)), .d (.sl (List.map iD v5))]))]⟩ (by simp [c35] <;> omega) (by simp [c35] <;> omega) ?_
  refine Walk.iter (σ := Int × Int) (fun g => ⟨[(1, .box 1 0), (3, .d (.int .i64 g.1)), (4, .d (.int .i64 g.2))], [(1, some (.box [.d (.int .i64 v1), .d (.int .i64 v2), .d (.str v3), .d (.sl (List.map Part.D v4)), .d (.sl (List.map iD v5))]))]⟩) (fun g : Int × Int => ref06_Total_l0 v4 g.1 g.2) _ (fun g y61 hx ih50 hr51 => ?_) (0, 0) hx
  obtain ⟨v17, v18⟩ := g
  unfold ref06_Total_l0 at hx
  try dsimp only at hx ⊢
  refine Walk.seq (Walk.seq (Walk.region' rfl fun K hK => ?_))
  simp only [go_sem, seval, c35]
  refine hK _ ?_
  clear hK K
  refine Walk.condO rfl hx (fun c54 hx => ?_) (fun c54 hx => ?_)
  · refine Walk.skip (Walk.seq (Walk.block (Walk.region' rfl fun K hK => ?_)))
    obtain ⟨v20, r55, a56, b57, c58, hx⟩ := rd_elim hx
    simp only [go_sem, seval, c35, c54, a56, b57, c58]
    repeat refine And.intro (by first | omega | (simp; done) | (simp; omega)) ?_
    refine hK _ ?_
    clear hK K
    refine Walk.inBlock (Walk.region' rfl fun K hK => ?_)
    simp only [go_sem, seval, c35, c54, a56, b57, c58]
    refine hK _ ?_
    clear hK K
    exact Walk.weaken _ (by simp [c35, c54, a56, b57, c58] <;> omega) (by simp [c35, c54, a56, b57, c58] <;> omega) (ih50 _ (cont_elim hx))
  refine Walk.exit rfl ?_
  obtain ⟨z59, e60, hx⟩ := exit_elim hx
  rw [hr51 z59 e60] at hx
  refine Walk.seq (Walk.region' rfl fun K hK => ?_)
  simp only [go_sem, seval, c35, c54]
  refine hK _ ?_
  clear hK K
  obtain rfl := Option.some.inj hx
  exact Walk.ret ⟨by simp [c35, c54], by simp [c35, c54]⟩
noncomputable def ref08_marks_l0 (v4 : List Part) (v6 : Int) (v20 : Bool) (v21 : Int) (v22 : Int) : Option ((Bool × Int × Int) ⊕ (Int)) :=
  bif decide (v22 < (v4.length : Int)) then (bif v20 then ((rd v4 v22).bind fun v25 => bif decide (v25.Topic = v6) then (contO ((true, IntKind.i64.wrap (v21 + v25.Max), IntKind.i64.wrap (v22 + 1)) : Bool × Int × Int)) else (contO ((true, v21, IntKind.i64.wrap (v22 + 1)) : Bool × Int × Int))) else ((rd v4 v22).bind fun v26 => bif decide (v26.Objective = v6) then (contO ((false, IntKind.i64.wrap (v21 + v26.Max), IntKind.i64.wrap (v22 + 1)) : Bool × Int × Int)) else (contO ((false, v21, IntKind.i64.wrap (v22 + 1)) : Bool × Int × Int)))) else (exitO (some (v21 : Int)))
noncomputable def ref08_marks (v1 : Int) (v2 : Int) (v3 : List UInt8) (v4 : List Part) (v5 : List Int) (v6 : Int) (v7 : Bool) : Option (Int) :=
  iter (fun g : Bool × Int × Int => ref08_marks_l0 v4 v6 g.1 g.2.1 g.2.2) (v7, 0, 0)
theorem ref08_marks_ok (v1 : Int) (v2 : Int) (v3 : List UInt8) (v4 : List Part) (v5 : List Int) (v6 : Int) (v7 : Bool) (r : Int) (hx : ref08_marks v1 v2 v3 v4 v5 v6 v7 = some r) :
    ACalls Try.prog 105 [.agg [.d (.int .i64 v1), .d (.int .i64 v2), .d (.str v3), .d (.sl (List.map Part.D v4)), .d (.sl (List.map iD v5))], .d (.int .i64 v6), .d (.bool v7)] [] (.d (.int .i64 r)) [] := by
  refine ACalls.of_sem (n := 50) 0 [6] (fn := Try.f105) Try.func105 rfl rfl (.one rfl) rfl (by simp) (by intro i; simp only [hget]; (repeat' split) <;> simp <;> omega) ?_
  unfold ref08_marks at hx
  refine Walk.seq (Walk.region' rfl fun K hK => ?_)
  simp only [go_sem, seval]
  refine hK _ ?_
  clear hK K
  refine Walk.seq (Walk.region' rfl fun K hK => ?_)
  simp only [go_sem, seval]
  refine hK _ ?_
  clear hK K
  refine Walk.seq (Walk.seq (Walk.region' rfl fun K hK => ?_))
  simp only [go_sem, seval]
  refine hK _ ?_
  clear hK K
  refine Walk.block (Walk.loop ?_)
  refine Walk.weaken ⟨[(1, .d (.int .i64 v6)), (2, .d (.bool v7)), (3, .box 3 0), (7, .d (.int .i64 0)), (8, .d (.int .i64 0))], [(3, some (.box [.d (.int .i64 v1), .d (.int .i64 v2), .d (.str v3), .d (.sl (List.map Part.D v4)), .d (.sl (List.map iD v5))]))]⟩ (by simp <;> omega) (by simp <;> omega) ?_
  refine Walk.iter (σ := Bool × Int × Int) (fun g => ⟨[(1, .d (.int .i64 v6)), (2, .d (.bool g.1)), (3, .box 3 0), (7, .d (.int .i64 g.2.1)), (8, .d (.int .i64 g.2.2))], [(3, some (.box [.d (.int .i64 v1), .d (.int .i64 v2), .d (.str v3), .d (.sl (List.map Part.D v4)), .d (.sl (List.map iD v5))]))]⟩) (fun g : Bool × Int × Int => ref08_marks_l0 v4 v6 g.1 g.2.1 g.2.2) _ (fun g y93 hx ih75 hr76 => ?_) (v7, 0, 0) hx
  obtain ⟨v20, v21, v22⟩ := g
  unfold ref08_marks_l0 at hx
  try dsimp only at hx ⊢
  refine Walk.seq (Walk.seq (Walk.region' rfl fun K hK => ?_))
  simp only [go_sem, seval]
  refine hK _ ?_
  clear hK K
  refine Walk.condO rfl hx (fun c79 hx => ?_) (fun c79 hx => ?_)
  · refine Walk.skip (Walk.seq (Walk.block (Walk.seq (Walk.region' rfl fun K hK => ?_))))
    simp only [go_sem, seval, c79]
    refine VGdO hx (fun g80 hx => ?_) (fun g80 hx => ?_)
    · obtain ⟨v25, r81, a82, b83, c84, hx⟩ := rd_elim hx
      simp only [go_sem, seval, c79, g80, a82, b83, c84]
      repeat refine And.intro (by first | omega | (simp; done) | (simp; omega)) ?_
      refine VGdO hx (fun g85 hx => ?_) (fun g85 hx => ?_)
      · simp only [go_sem, seval, c79, g80, a82, b83, c84, g85]
        refine hK _ ?_
        clear hK K
        refine Walk.condT rfl (Walk.region' rfl fun K hK => ?_)
        simp only [go_sem, seval, c79, g80, a82, b83, c84, g85]
        repeat refine And.intro (by first | omega | (simp; done) | (simp; omega)) ?_
        refine hK _ ?_
        clear hK K
        refine Walk.inBlock (Walk.region' rfl fun K hK => ?_)
        simp only [go_sem, seval, c79, g80, a82, b83, c84, g85]
        refine hK _ ?_
        clear hK K
        exact Walk.weaken _ (by simp [c79, g80, a82, b83, c84, g85] <;> omega) (by simp [c79, g80, a82, b83, c84, g85] <;> omega) (ih75 _ (cont_elim hx))
      simp only [go_sem, seval, c79, g80, a82, b83, c84, g85]
      refine hK _ ?_
      clear hK K
      refine Walk.condF rfl (Walk.skip (Walk.inBlock (Walk.region' rfl fun K hK => ?_)))
      simp only [go_sem, seval, c79, g80, a82, b83, c84, g85]
      refine hK _ ?_
      clear hK K
      exact Walk.weaken _ (by simp [c79, g80, a82, b83, c84, g85] <;> omega) (by simp [c79, g80, a82, b83, c84, g85] <;> omega) (ih75 _ (cont_elim hx))
    obtain ⟨v26, r86, a87, b88, c89, hx⟩ := rd_elim hx
    simp only [go_sem, seval, c79, g80, a87, b88, c89]
    repeat refine And.intro (by first | omega | (simp; done) | (simp; omega)) ?_
    refine hK _ ?_
    clear hK K
    refine Walk.condO rfl hx (fun c90 hx => ?_) (fun c90 hx => ?_)
    · refine Walk.region' rfl fun K hK => ?_
      simp only [go_sem, seval, c79, g80, a87, b88, c89, c90]
      repeat refine And.intro (by first | omega | (simp; done) | (simp; omega)) ?_
      refine hK _ ?_
      clear hK K
      refine Walk.inBlock (Walk.region' rfl fun K hK => ?_)
      simp only [go_sem, seval, c79, g80, a87, b88, c89, c90]
      refine hK _ ?_
      clear hK K
      exact Walk.weaken _ (by simp [c79, g80, a87, b88, c89, c90] <;> omega) (by simp [c79, g80, a87, b88, c89, c90] <;> omega) (ih75 _ (cont_elim hx))
    refine Walk.skip (Walk.inBlock (Walk.region' rfl fun K hK => ?_))
    simp only [go_sem, seval, c79, g80, a87, b88, c89, c90]
    refine hK _ ?_
    clear hK K
    exact Walk.weaken _ (by simp [c79, g80, a87, b88, c89, c90] <;> omega) (by simp [c79, g80, a87, b88, c89, c90] <;> omega) (ih75 _ (cont_elim hx))
  refine Walk.exit rfl ?_
  obtain ⟨z91, e92, hx⟩ := exit_elim hx
  rw [hr76 z91 e92] at hx
  refine Walk.seq (Walk.region' rfl fun K hK => ?_)
  simp only [go_sem, seval, c79]
  refine hK _ ?_
  clear hK K
  obtain rfl := Option.some.inj hx
  exact Walk.ret ⟨by simp [c79], by simp [c79]⟩
noncomputable def ref08_sums_l1 (v2 : List TItem) (v54 : TRange) (v3 : Bool) (v43 : List Row) (v44 : Int) (v57 : Int) (v58 : List Int) : Option ((Int × List Int) ⊕ ((List Row × Int) ⊕ (List Row))) :=
  bif decide (v57 < (v2.length : Int)) then ((rd v2 v57).bind fun v61 => (ref08_marks v61.ID v61.Version v61.Stem v61.Parts v61.Enemies v54.Index v3).bind fun v62 => chk ((v58.length + 1) * 8 ≤ 140737488355328) (contO ((IntKind.i64.wrap (v57 + 1), (v58 ++ [v62])) : Int × List Int))) else (exitO (chk ((v43.length + 1) * 40 ≤ 140737488355328) (contO (((v43 ++ [(Row.mk v58 v54.Least v54.Most)]), IntKind.i64.wrap (v44 + 1)) : List Row × Int))))
noncomputable def ref08_sums_l0 (v1 : List TRange) (v2 : List TItem) (v3 : Bool) (v43 : List Row) (v44 : Int) : Option ((List Row × Int) ⊕ (List Row)) :=
  bif decide (v44 < (v1.length : Int)) then ((rd v1 v44).bind fun v54 => iter (fun g : Int × List Int => ref08_sums_l1 v2 v54 v3 v43 v44 g.1 g.2) (0, [])) else (exitO (some (v43 : List Row)))
noncomputable def ref08_sums (v1 : List TRange) (v2 : List TItem) (v3 : Bool) : Option (List Row) :=
  iter (fun g : List Row × Int => ref08_sums_l0 v1 v2 v3 g.1 g.2) ([], 0)
theorem ref08_sums_ok (v1 : List TRange) (v2 : List TItem) (v3 : Bool) (r : List Row) (hx : ref08_sums v1 v2 v3 = some r) :
    ACalls Try.prog 82 [.d (.sl (List.map TRange.D v1)), .d (.sl (List.map TItem.D v2)), .d (.bool v3)] [] (.arr 2000 0 r.length) [(2000, some (.arr 32 3 (List.map Row.D r)))] := by
  refine ACalls.of_sem (n := 55) 0 [6] (fn := Try.f82) Try.func82 rfl rfl (.one rfl) rfl (by simp) (by intro i; simp only [hget]; (repeat' split) <;> simp <;> omega) ?_
  unfold ref08_sums at hx
  refine Walk.seq (Walk.region' rfl fun K hK => ?_)
  simp only [go_sem, seval]
  refine hK _ ?_
  clear hK K
  refine Walk.seq (Walk.region' rfl fun K hK => ?_)
  simp only [go_sem, seval]
  refine hK _ ?_
  clear hK K
  refine Walk.seq (Walk.seq (Walk.region' rfl fun K hK => ?_))
  simp only [go_sem, seval]
  refine hK _ ?_
  clear hK K
  refine Walk.block (Walk.loop ?_)
  refine Walk.weaken ⟨[(0, .d (.sl (List.map TRange.D v1))), (1, .d (.sl (List.map TItem.D v2))), (2, .d (.bool v3)), (7, .nils), (8, .d (.int .i64 0))], []⟩ (by simp <;> omega) (by simp <;> omega) ?_
  refine Walk.up 1006 32 3 [(0, .d (.sl (List.map TRange.D v1))), (1, .d (.sl (List.map TItem.D v2))), (2, .d (.bool v3)), (7, .arr 1006 0 0), (8, .d (.int .i64 0))] [] (by simp) (by simp) (by omega) (by simp) (by simp) (by simp) ?_
  refine Walk.weaken ⟨[(0, .d (.sl (List.map TRange.D v1))), (1, .d (.sl (List.map TItem.D v2))), (2, .d (.bool v3)), (7, .arr 1006 0 0), (8, .d (.int .i64 0))], [(1006, some (.arr 32 3 (List.map Row.D [])))]⟩ (by simp <;> omega) (by simp <;> omega) ?_
  refine Walk.iter (σ := List Row × Int) (fun g => ⟨[(0, .d (.sl (List.map TRange.D v1))), (1, .d (.sl (List.map TItem.D v2))), (2, .d (.bool v3)), (7, .arr 1006 0 g.1.length), (8, .d (.int .i64 g.2))], [(1006, some (.arr 32 3 (List.map Row.D g.1)))]⟩) (fun g : List Row × Int => ref08_sums_l0 v1 v2 v3 g.1 g.2) _ (fun g y236 hx ih193 hr194 => ?_) ([], 0) hx
  obtain ⟨v43, v44⟩ := g
  unfold ref08_sums_l0 at hx
  try dsimp only at hx ⊢
  refine Walk.seq (Walk.seq (Walk.region' rfl fun K hK => ?_))
  simp only [go_sem, seval]
  refine hK _ ?_
  clear hK K
  refine Walk.condO rfl hx (fun c197 hx => ?_) (fun c197 hx => ?_)
  · refine Walk.skip (Walk.seq (Walk.block (Walk.seq (Walk.drawn' rfl mixed fun K hK => ?_))))
    obtain ⟨v54, r198, a199, b200, c201, hx⟩ := rd_elim hx
    simp only [go_sem, seval, c197, a199, b200, c201]
    repeat refine And.intro (by first | omega | (simp; done) | (simp; omega)) ?_
    refine hK _ _ (by kernel_rfl) (by simp [c197, a199, b200, c201]) ?_
    clear hK K
    refine Walk.seq (Walk.seq (Walk.region' rfl fun K hK => ?_))
    simp only [go_sem, seval, c197, a199, b200, c201]
    refine hK _ ?_
    clear hK K
    refine Walk.block (Walk.loop ?_)
    refine Walk.weaken ⟨[(0, .d (.sl (List.map TRange.D v1))), (1, .d (.sl (List.map TItem.D v2))), (2, .d (.bool v3)), (7, .arr 1006 0 v43.length), (8, .d (.int .i64 v44)), (9, .box 9 0), (10, .d (.int .i64 0))], [(9, some (.box [.nils, .d (.int .i64 v54.Least), .d (.int .i64 v54.Most)])), (1006, some (.arr 32 3 (List.map Row.D v43)))]⟩ (by simp [c197, a199, b200, c201] <;> omega) (by simp [c197, a199, b200, c201] <;> omega) ?_
    refine Walk.up 1008 3 1 [(0, .d (.sl (List.map TRange.D v1))), (1, .d (.sl (List.map TItem.D v2))), (2, .d (.bool v3)), (7, .arr 1006 0 v43.length), (8, .d (.int .i64 v44)), (9, .box 9 0), (10, .d (.int .i64 0))] [(9, some (.box [.arr 1008 0 0, .d (.int .i64 v54.Least), .d (.int .i64 v54.Most)])), (1006, some (.arr 32 3 (List.map Row.D v43)))] (by simp) (by simp) (by omega) (by simp) (by simp) (by simp) ?_
    refine Walk.weaken ⟨[(0, .d (.sl (List.map TRange.D v1))), (1, .d (.sl (List.map TItem.D v2))), (2, .d (.bool v3)), (7, .arr 1006 0 v43.length), (8, .d (.int .i64 v44)), (9, .box 9 0), (10, .d (.int .i64 0))], [(9, some (.box [.arr 1008 0 0, .d (.int .i64 v54.Least), .d (.int .i64 v54.Most)])), (1006, some (.arr 32 3 (List.map Row.D v43))), (1008, some (.arr 3 1 (List.map iD [])))]⟩ (by simp [c197, a199, b200, c201] <;> omega) (by simp [c197, a199, b200, c201] <;> omega) ?_
    refine Walk.iter (σ := Int × List Int) (fun g => ⟨[(0, .d (.sl (List.map TRange.D v1))), (1, .d (.sl (List.map TItem.D v2))), (2, .d (.bool v3)), (7, .arr 1006 0 v43.length), (8, .d (.int .i64 v44)), (9, .box 9 0), (10, .d (.int .i64 g.1))], [(9, some (.box [.arr 1008 0 g.2.length, .d (.int .i64 v54.Least), .d (.int .i64 v54.Most)])), (1006, some (.arr 32 3 (List.map Row.D v43))), (1008, some (.arr 3 1 (List.map iD g.2)))]⟩) (fun g : Int × List Int => ref08_sums_l1 v2 v54 v3 v43 v44 g.1 g.2) _ (fun g y233 hx ih219 hr220 => ?_) (0, []) hx
    obtain ⟨v57, v58⟩ := g
    unfold ref08_sums_l1 at hx
    try dsimp only at hx ⊢
    refine Walk.seq (Walk.seq (Walk.region' rfl fun K hK => ?_))
    simp only [go_sem, seval, c197, a199, b200, c201]
    refine hK _ ?_
    clear hK K
    refine Walk.condO rfl hx (fun c223 hx => ?_) (fun c223 hx => ?_)
    · refine Walk.skip (Walk.seq (Walk.block (Walk.drawn' rfl mixed fun K hK => ?_)))
      obtain ⟨v61, r224, a225, b226, c227, hx⟩ := rd_elim hx
      obtain ⟨v62, h228, hx⟩ := bind_elim hx
      simp only [go_sem, seval, c197, a199, b200, c201, c223, a225, b226, c227]
      repeat refine And.intro (by first | omega | (simp; done) | (simp; omega)) ?_
      refine VCl.pure rfl (by simp only [go_sem, seval, c197, a199, b200, c201, c223, a225, b226, c227]; try simp) (ref08_marks_ok v61.ID v61.Version v61.Stem v61.Parts v61.Enemies v54.Index v3 _ h228) (by simp only [go_sem, seval, c197, a199, b200, c201, c223, a225, b226, c227]; try simp) (by simp only [go_sem, seval, c197, a199, b200, c201, c223, a225, b226, c227]; try simp) (by simp only [go_sem, seval, c197, a199, b200, c201, c223, a225, b226, c227]; try simp) (by simp only [go_sem, seval, c197, a199, b200, c201, c223, a225, b226, c227]; try simp) (by simp only [go_sem, seval, c197, a199, b200, c201, c223, a225, b226, c227]; try simp) (by simp only [go_sem, seval, c197, a199, b200, c201, c223, a225, b226, c227]; try simp) ?_
      obtain ⟨k229, hx⟩ := chk_elim hx
      simp only [go_sem, seval, c197, a199, b200, c201, c223, a225, b226, c227, k229]
      repeat refine And.intro (by first | omega | (simp; done) | (simp; omega)) ?_
      refine hK _ _ (by kernel_rfl) (by simp [c197, a199, b200, c201, c223, a225, b226, c227, k229]) ?_
      clear hK K
      refine Walk.weaken ⟨[(0, .d (.sl (List.map TRange.D v1))), (1, .d (.sl (List.map TItem.D v2))), (2, .d (.bool v3)), (7, .arr 1006 0 v43.length), (8, .d (.int .i64 v44)), (9, .box 9 0), (10, .d (.int .i64 v57))], [(9, some (.box [.arr 1008 0 ((v58 ++ [v62]).length), .d (.int .i64 v54.Least), .d (.int .i64 v54.Most)])), (1006, some (.arr 32 3 (List.map Row.D v43))), (1008, some (.arr 3 1 (List.map iD (v58 ++ [v62]))))]⟩ (by simp [c197, a199, b200, c201, c223, a225, b226, c227, k229] <;> omega) (by simp [c197, a199, b200, c201, c223, a225, b226, c227, k229] <;> omega) ?_
      refine Walk.inBlock (Walk.region' rfl fun K hK => ?_)
      simp only [go_sem, seval, c197, a199, b200, c201, c223, a225, b226, c227, k229]
      refine hK _ ?_
      clear hK K
      exact Walk.weaken _ (by simp [c197, a199, b200, c201, c223, a225, b226, c227, k229] <;> omega) (by simp [c197, a199, b200, c201, c223, a225, b226, c227, k229] <;> omega) (ih219 _ (cont_elim hx))
    refine Walk.exit rfl ?_
    obtain ⟨z230, e231, hx⟩ := exit_elim hx
    rw [hr220 z230 e231] at hx
    refine Walk.region' rfl fun K hK => ?_
    obtain ⟨k232, hx⟩ := chk_elim hx
    simp only [go_sem, seval, c197, a199, b200, c201, c223, k232]
    repeat refine And.intro (by first | omega | (simp; done) | (simp; omega)) ?_
    refine hK _ ?_
    clear hK K
    refine Walk.weaken ⟨[(0, .d (.sl (List.map TRange.D v1))), (1, .d (.sl (List.map TItem.D v2))), (2, .d (.bool v3)), (7, .arr 1006 0 (((v43 ++ [(Row.mk v58 v54.Least v54.Most)])).length)), (8, .d (.int .i64 v44))], [(1006, some (.arr 32 3 (List.map Row.D ((v43 ++ [(Row.mk v58 v54.Least v54.Most)])))))]⟩ (by simp [c197, a199, b200, c201, c223, k232] <;> omega) (by simp [c197, a199, b200, c201, c223, k232] <;> omega) ?_
    refine Walk.inBlock (Walk.region' rfl fun K hK => ?_)
    simp only [go_sem, seval, c197, a199, b200, c201, c223, k232]
    refine hK _ ?_
    clear hK K
    exact Walk.weaken _ (by simp [c197, a199, b200, c201, c223, k232] <;> omega) (by simp [c197, a199, b200, c201, c223, k232] <;> omega) (ih193 _ (cont_elim hx))
  refine Walk.exit rfl ?_
  obtain ⟨z234, e235, hx⟩ := exit_elim hx
  rw [hr194 z234 e235] at hx
  refine Walk.seq (Walk.region' rfl fun K hK => ?_)
  simp only [go_sem, seval, c197]
  refine hK _ ?_
  clear hK K
  refine Walk.weaken ⟨[(6, .arr 1006 0 v43.length)], [(1006, some (.arr 32 3 (List.map Row.D v43)))]⟩ (by simp [c197] <;> omega) (by simp [c197] <;> omega) ?_
  refine Walk.rename 1006 2000 (by omega) (by omega) (by simp) (by simp) ?_
  simp only [renE, renL, AV.ren, AV.rens, AObj.ren, swp, Option.map_some, reduceIte, Nat.reduceEqDiff]
  obtain rfl := Option.some.inj hx
  exact Walk.ret ⟨by simp [c197], by simp [c197]⟩
noncomputable def ref08_one (v1 : Bool) : Option (Int) :=
  bif v1 then (some (1 : Int)) else (some (0 : Int))
theorem ref08_one_ok (v1 : Bool) (r : Int) (hx : ref08_one v1 = some r) :
    ACalls Try.prog 83 [.d (.bool v1)] [] (.d (.int .i64 r)) [] := by
  refine ACalls.of_sem (n := 4) 0 [2] (fn := Try.f83) Try.func83 rfl rfl (.one rfl) rfl (by simp) (by intro i; simp only [hget]; (repeat' split) <;> simp <;> omega) ?_
  unfold ref08_one at hx
  refine Walk.seq (Walk.region' rfl fun K hK => ?_)
  simp only [go_sem, seval]
  refine hK _ ?_
  clear hK K
  refine Walk.seq (Walk.seq (Walk.region' rfl fun K hK => ?_))
  simp only [go_sem, seval]
  refine hK _ ?_
  clear hK K
  refine Walk.condO rfl hx (fun c2 hx => ?_) (fun c2 hx => ?_)
  · refine Walk.seq (Walk.region' rfl fun K hK => ?_)
    simp only [go_sem, seval, c2]
    refine hK _ ?_
    clear hK K
    obtain rfl := Option.some.inj hx
    exact Walk.ret ⟨by simp [c2], by simp [c2]⟩
  refine Walk.skip (Walk.seq (Walk.region' rfl fun K hK => ?_))
  simp only [go_sem, seval, c2]
  refine hK _ ?_
  clear hK K
  obtain rfl := Option.some.inj hx
  exact Walk.ret ⟨by simp [c2], by simp [c2]⟩
noncomputable def ref06_Enemy (v1 : Int) (v2 : Int) (v3 : List UInt8) (v4 : List Part) (v5 : List Int) (v6 : Int) (v7 : Int) (v8 : List UInt8) (v9 : List Part) (v10 : List Int) : Option (Bool) :=
  (ref06_Check v1 v2 v3 v4 v5).bind fun v16 => bif decide (v16 = 0) then ((ref06_Check v6 v7 v8 v9 v10).bind fun v17 => bif decide (v17 = 0) then (bif decide (¬ v1 = v6) then ((ref06_Has v5 v6).bind fun v18 => bif v18 then (some (true : Bool)) else ((ref06_Has v10 v1).bind fun v19 => some (v19 : Bool))) else (some (false : Bool))) else (some (false : Bool))) else (some (false : Bool))
theorem ref06_Enemy_ok (v1 : Int) (v2 : Int) (v3 : List UInt8) (v4 : List Part) (v5 : List Int) (v6 : Int) (v7 : Int) (v8 : List UInt8) (v9 : List Part) (v10 : List Int) (r : Bool) (hx : ref06_Enemy v1 v2 v3 v4 v5 v6 v7 v8 v9 v10 = some r) :
    ACalls Try.prog 84 [.agg [.d (.int .i64 v1), .d (.int .i64 v2), .d (.str v3), .d (.sl (List.map Part.D v4)), .d (.sl (List.map iD v5))], .agg [.d (.int .i64 v6), .d (.int .i64 v7), .d (.str v8), .d (.sl (List.map Part.D v9)), .d (.sl (List.map iD v10))]] [] (.d (.bool r)) [] := by
  refine ACalls.of_sem (n := 34) 0 [4] (fn := Try.f84) Try.func84 rfl rfl (.one rfl) rfl (by simp) (by intro i; simp only [hget]; (repeat' split) <;> simp <;> omega) ?_
  unfold ref06_Enemy at hx
  refine Walk.seq (Walk.region' rfl fun K hK => ?_)
  simp only [go_sem, seval]
  refine hK _ ?_
  clear hK K
  refine Walk.seq (Walk.region' rfl fun K hK => ?_)
  obtain ⟨v16, h9, hx⟩ := bind_elim hx
  simp only [go_sem, seval]
  refine VCl.pure rfl (by simp only [go_sem, seval]; try simp) (ref06_Check_ok v1 v2 v3 v4 v5 _ h9) (by simp only [go_sem, seval]; try simp) (by simp only [go_sem, seval]; try simp) (by simp only [go_sem, seval]; try simp) (by simp only [go_sem, seval]; try simp) (by simp only [go_sem, seval]; try simp) (by simp only [go_sem, seval]; try simp) ?_
  simp only [go_sem, seval]
  refine VGdO hx (fun g10 hx => ?_) (fun g10 hx => ?_)
  · obtain ⟨v17, h11, hx⟩ := bind_elim hx
    simp only [go_sem, seval, g10]
    refine VCl.pure rfl (by simp only [go_sem, seval, g10]; try simp) (ref06_Check_ok v6 v7 v8 v9 v10 _ h11) (by simp only [go_sem, seval, g10]; try simp) (by simp only [go_sem, seval, g10]; try simp) (by simp only [go_sem, seval, g10]; try simp) (by simp only [go_sem, seval, g10]; try simp) (by simp only [go_sem, seval, g10]; try simp) (by simp only [go_sem, seval, g10]; try simp) ?_
    simp only [go_sem, seval, g10]
    refine VGdO hx (fun g12 hx => ?_) (fun g12 hx => ?_)
    · simp only [go_sem, seval, g10, g12]
      refine VGdO hx (fun g13 hx => ?_) (fun g13 hx => ?_)
      · obtain ⟨v18, h14, hx⟩ := bind_elim hx
        simp only [go_sem, seval, g10, g12, g13]
        refine VCl.pure rfl (by simp only [go_sem, seval, g10, g12, g13]; try simp) (ref06_Has_ok v5 v6 _ h14) (by simp only [go_sem, seval, g10, g12, g13]; try simp) (by simp only [go_sem, seval, g10, g12, g13]; try simp) (by simp only [go_sem, seval, g10, g12, g13]; try simp) (by simp only [go_sem, seval, g10, g12, g13]; try simp) (by simp only [go_sem, seval, g10, g12, g13]; try simp) (by simp only [go_sem, seval, g10, g12, g13]; try simp) ?_
        simp only [go_sem, seval, g10, g12, g13]
        refine VGdO hx (fun g15 hx => ?_) (fun g15 hx => ?_)
        · simp only [go_sem, seval, g10, g12, g13, g15]
          refine hK _ ?_
          clear hK K
          obtain rfl := Option.some.inj hx
          exact Walk.ret ⟨by simp [g10, g12, g13, g15], by simp [g10, g12, g13, g15]⟩
        obtain ⟨v19, h16, hx⟩ := bind_elim hx
        simp only [go_sem, seval, g10, g12, g13, g15]
        refine VCl.pure rfl (by simp only [go_sem, seval, g10, g12, g13, g15]; try simp) (ref06_Has_ok v10 v1 _ h16) (by simp only [go_sem, seval, g10, g12, g13, g15]; try simp) (by simp only [go_sem, seval, g10, g12, g13, g15]; try simp) (by simp only [go_sem, seval, g10, g12, g13, g15]; try simp) (by simp only [go_sem, seval, g10, g12, g13, g15]; try simp) (by simp only [go_sem, seval, g10, g12, g13, g15]; try simp) (by simp only [go_sem, seval, g10, g12, g13, g15]; try simp) ?_
        simp only [go_sem, seval, g10, g12, g13, g15]
        refine hK _ ?_
        clear hK K
        obtain rfl := Option.some.inj hx
        exact Walk.ret ⟨by simp [g10, g12, g13, g15], by simp [g10, g12, g13, g15]⟩
      simp only [go_sem, seval, g10, g12, g13]
      refine hK _ ?_
      clear hK K
      obtain rfl := Option.some.inj hx
      exact Walk.ret ⟨by simp [g10, g12, g13], by simp [g10, g12, g13]⟩
    simp only [go_sem, seval, g10, g12]
    refine hK _ ?_
    clear hK K
    obtain rfl := Option.some.inj hx
    exact Walk.ret ⟨by simp [g10, g12], by simp [g10, g12]⟩
  simp only [go_sem, seval, g10]
  refine hK _ ?_
  clear hK K
  obtain rfl := Option.some.inj hx
  exact Walk.ret ⟨by simp [g10], by simp [g10]⟩
noncomputable def ref08_uses_l0 (v2 : List Ref) (v3 : Int) (v4 : Int) (v14 : Int) : Option ((Int) ⊕ (Bool)) :=
  bif decide (v14 < (v2.length : Int)) then ((rd v2 v14).bind fun v16 => bif decide (v16.ID = v3) then (bif decide (v16.Version = v4) then (exitO (some (true : Bool))) else (contO (IntKind.i64.wrap (v14 + 1) : Int))) else (contO (IntKind.i64.wrap (v14 + 1) : Int))) else (exitO (some (false : Bool)))
noncomputable def ref08_uses (v1 : Int) (v2 : List Ref) (v3 : Int) (v4 : Int) (v5 : List UInt8) (v6 : List Part) (v7 : List Int) : Option (Bool) :=
  iter (fun g : Int => ref08_uses_l0 v2 v3 v4 g) 0
theorem ref08_uses_ok (v1 : Int) (v2 : List Ref) (v3 : Int) (v4 : Int) (v5 : List UInt8) (v6 : List Part) (v7 : List Int) (r : Bool) (hx : ref08_uses v1 v2 v3 v4 v5 v6 v7 = some r) :
    ACalls Try.prog 85 [.agg [.d (.int .i64 v1), .d (.sl (List.map Ref.D v2))], .agg [.d (.int .i64 v3), .d (.int .i64 v4), .d (.str v5), .d (.sl (List.map Part.D v6)), .d (.sl (List.map iD v7))]] [] (.d (.bool r)) [] := by
  refine ACalls.of_sem (n := 33) 0 [4] (fn := Try.f85) Try.func85 rfl rfl (.one rfl) rfl (by simp) (by intro i; simp only [hget]; (repeat' split) <;> simp <;> omega) ?_
  unfold ref08_uses at hx
  refine Walk.seq (Walk.region' rfl fun K hK => ?_)
  simp only [go_sem, seval]
  refine hK _ ?_
  clear hK K
  refine Walk.seq (Walk.seq (Walk.region' rfl fun K hK => ?_))
  simp only [go_sem, seval]
  refine hK _ ?_
  clear hK K
  refine Walk.block (Walk.loop ?_)
  refine Walk.weaken ⟨[(2, .box 2 0), (3, .box 3 0), (5, .d (.int .i64 0))], [(2, some (.box [.d (.int .i64 v1), .d (.sl (List.map Ref.D v2))])), (3, some (.box [.d (.int .i64 v3), .d (.int .i64 v4), .d (.str v5), .d (.sl (List.map Part.D v6)), .d (.sl (List.map iD v7))]))]⟩ (by simp <;> omega) (by simp <;> omega) ?_
  refine Walk.iter (σ := Int) (fun g => ⟨[(2, .box 2 0), (3, .box 3 0), (5, .d (.int .i64 g))], [(2, some (.box [.d (.int .i64 v1), .d (.sl (List.map Ref.D v2))])), (3, some (.box [.d (.int .i64 v3), .d (.int .i64 v4), .d (.str v5), .d (.sl (List.map Part.D v6)), .d (.sl (List.map iD v7))]))]⟩) (fun g : Int => ref08_uses_l0 v2 v3 v4 g) _ (fun v14 y65 hx ih50 hr51 => ?_) 0 hx
  unfold ref08_uses_l0 at hx
  try dsimp only at hx ⊢
  refine Walk.seq (Walk.seq (Walk.region' rfl fun K hK => ?_))
  simp only [go_sem, seval]
  refine hK _ ?_
  clear hK K
  refine Walk.condO rfl hx (fun c54 hx => ?_) (fun c54 hx => ?_)
  · refine Walk.skip (Walk.seq (Walk.block (Walk.seq (Walk.drawn' rfl mixed fun K hK => ?_))))
    obtain ⟨v16, r55, a56, b57, c58, hx⟩ := rd_elim hx
    simp only [go_sem, seval, c54, a56, b57, c58]
    repeat refine And.intro (by first | omega | (simp; done) | (simp; omega)) ?_
    refine VGdO hx (fun g59 hx => ?_) (fun g59 hx => ?_)
    · simp only [go_sem, seval, c54, a56, b57, c58, g59]
      repeat refine And.intro (by first | omega | (simp; done) | (simp; omega)) ?_
      refine hK _ _ (by kernel_rfl) (by simp [c54, a56, b57, c58, g59]) ?_
      clear hK K
      refine Walk.condO rfl hx (fun c60 hx => ?_) (fun c60 hx => ?_)
      · refine Walk.seq (Walk.region' rfl fun K hK => ?_)
        simp only [go_sem, seval, c54, a56, b57, c58, g59, c60]
        refine hK _ ?_
        clear hK K
        obtain ⟨z61, e62, hx⟩ := exit_elim hx
        rw [hr51 z61 e62] at hx
        obtain rfl := Option.some.inj hx
        exact Walk.ret ⟨by simp [c54, a56, b57, c58, g59, c60], by simp [c54, a56, b57, c58, g59, c60]⟩
      refine Walk.skip (Walk.inBlock (Walk.region' rfl fun K hK => ?_))
      simp only [go_sem, seval, c54, a56, b57, c58, g59, c60]
      refine hK _ ?_
      clear hK K
      exact Walk.weaken _ (by simp [c54, a56, b57, c58, g59, c60] <;> omega) (by simp [c54, a56, b57, c58, g59, c60] <;> omega) (ih50 _ (cont_elim hx))
    simp only [go_sem, seval, c54, a56, b57, c58, g59]
    refine hK _ _ (by kernel_rfl) (by simp [c54, a56, b57, c58, g59]) ?_
    clear hK K
    refine Walk.condF rfl (Walk.skip (Walk.inBlock (Walk.region' rfl fun K hK => ?_)))
    simp only [go_sem, seval, c54, a56, b57, c58, g59]
    refine hK _ ?_
    clear hK K
    exact Walk.weaken _ (by simp [c54, a56, b57, c58, g59] <;> omega) (by simp [c54, a56, b57, c58, g59] <;> omega) (ih50 _ (cont_elim hx))
  refine Walk.exit rfl ?_
  obtain ⟨z63, e64, hx⟩ := exit_elim hx
  rw [hr51 z63 e64] at hx
  refine Walk.seq (Walk.region' rfl fun K hK => ?_)
  simp only [go_sem, seval, c54]
  refine hK _ ?_
  clear hK K
  obtain rfl := Option.some.inj hx
  exact Walk.ret ⟨by simp [c54], by simp [c54]⟩
noncomputable def ref08_Rows_l3 (v10 : List TItem) (v7 : List Int) (v747 : Int) (v748 : List Row) (v763 : Int) (v764 : List Int) : Option ((Int × List Int) ⊕ ((Int × List Row) ⊕ (List Row × Int))) :=
  bif decide (v763 < (v10.length : Int)) then ((rd v10 v763).bind fun v768 => (rd v7 v747).bind fun v769 => (ref08_one (decide (v768.ID = v769))).bind fun v770 => chk ((v764.length + 1) * 8 ≤ 140737488355328) (contO ((IntKind.i64.wrap (v763 + 1), (v764 ++ [v770])) : Int × List Int))) else (exitO (chk ((v748.length + 1) * 40 ≤ 140737488355328) (contO ((IntKind.i64.wrap (v747 + 1), (v748 ++ [(Row.mk v764 1 1)])) : Int × List Row))))
noncomputable def ref08_Rows_l7 (v10 : List TItem) (v1011 : Int) (v1059 : Int) (v1060 : List Row) (v1077 : Int) (v1078 : List Int) : Option ((Int × List Int) ⊕ ((Int × List Row) ⊕ ((Int × List Row) ⊕ (List Row × Int)))) :=
  bif decide (v1077 < (v10.length : Int)) then (bif decide (v1077 = v1011) then ((ref08_one true).bind fun v1081 => chk ((v1078.length + 1) * 8 ≤ 140737488355328) (contO ((IntKind.i64.wrap (v1077 + 1), (v1078 ++ [v1081])) : Int × List Int))) else ((ref08_one (decide (v1077 = v1059))).bind fun v1082 => chk ((v1078.length + 1) * 8 ≤ 140737488355328) (contO ((IntKind.i64.wrap (v1077 + 1), (v1078 ++ [v1082])) : Int × List Int)))) else (exitO (chk ((v1060.length + 1) * 40 ≤ 140737488355328) (contO ((IntKind.i64.wrap (v1059 + 1), (v1060 ++ [(Row.mk v1078 0 1)])) : Int × List Row))))
noncomputable def ref08_Rows_j6 (v10 : List TItem) (v1011 : Int) (v1059 : Int) (v1060 : List Row) : Option ((Int × List Row) ⊕ ((Int × List Row) ⊕ (List Row × Int))) :=
  iter (fun g : Int × List Int => ref08_Rows_l7 v10 v1011 v1059 v1060 g.1 g.2) (0, [])
noncomputable def ref08_Rows_l5 (v10 : List TItem) (v1011 : Int) (v1059 : Int) (v1060 : List Row) : Option ((Int × List Row) ⊕ ((Int × List Row) ⊕ (List Row × Int))) :=
  bif decide (v1059 < (v10.length : Int)) then ((rd v10 v1011).bind fun v1083 => (rd v10 v1059).bind fun v1084 => bif decide (¬ v1083.ID = v1084.ID) then ((ref06_Enemy v1083.ID v1083.Version v1083.Stem v1083.Parts v1083.Enemies v1084.ID v1084.Version v1084.Stem v1084.Parts v1084.Enemies).bind fun v1085 => bif !v1085 then (contO ((IntKind.i64.wrap (v1059 + 1), v1060) : Int × List Row)) else (ref08_Rows_j6 v10 v1011 v1059 v1060 )) else (ref08_Rows_j6 v10 v1011 v1059 v1060 )) else (exitO (contO ((IntKind.i64.wrap (v1011 + 1), v1060) : Int × List Row)))
noncomputable def ref08_Rows_l9 (v10 : List TItem) (v8 : List Form) (v1188 : Int) (v1189 : List Row) (v9 : Int) (v1208 : Int) (v1209 : List Int) : Option ((Int × List Int) ⊕ ((Int × List Row) ⊕ (List Row × Int))) :=
  bif decide (v1208 < (v10.length : Int)) then ((rd v8 v1188).bind fun v1214 => (rd v10 v1208).bind fun v1215 => (ref08_uses v1214.Code v1214.Items v1215.ID v1215.Version v1215.Stem v1215.Parts v1215.Enemies).bind fun v1216 => (ref08_one v1216).bind fun v1217 => chk ((v1209.length + 1) * 8 ≤ 140737488355328) (contO ((IntKind.i64.wrap (v1208 + 1), (v1209 ++ [v1217])) : Int × List Int))) else (exitO (chk ((v1189.length + 1) * 40 ≤ 140737488355328) (contO ((IntKind.i64.wrap (v1188 + 1), (v1189 ++ [(Row.mk v1209 0 v9)])) : Int × List Row))))
noncomputable def ref08_Rows_l8 (v8 : List Form) (v10 : List TItem) (v9 : Int) (v1188 : Int) (v1189 : List Row) : Option ((Int × List Row) ⊕ (List Row × Int)) :=
  bif decide (v1188 < (v8.length : Int)) then (iter (fun g : Int × List Int => ref08_Rows_l9 v10 v8 v1188 v1189 v9 g.1 g.2) (0, [])) else (exitO (bif decide ((v1189.length : Int) > 60) then (some (([], 3) : List Row × Int)) else (some ((v1189, 0) : List Row × Int))))
noncomputable def ref08_Rows_l4 (v10 : List TItem) (v8 : List Form) (v9 : Int) (v1011 : Int) (v1012 : List Row) : Option ((Int × List Row) ⊕ (List Row × Int)) :=
  bif decide (v1011 < (v10.length : Int)) then (iter (fun g : Int × List Row => ref08_Rows_l5 v10 v1011 g.1 g.2) (IntKind.i64.wrap (v1011 + 1), v1012)) else (exitO (iter (fun g : Int × List Row => ref08_Rows_l8 v8 v10 v9 g.1 g.2) (0, v1012)))
noncomputable def ref08_Rows_l2 (v7 : List Int) (v10 : List TItem) (v8 : List Form) (v9 : Int) (v747 : Int) (v748 : List Row) : Option ((Int × List Row) ⊕ (List Row × Int)) :=
  bif decide (v747 < (v7.length : Int)) then (iter (fun g : Int × List Int => ref08_Rows_l3 v10 v7 v747 v748 g.1 g.2) (0, [])) else (exitO (iter (fun g : Int × List Row => ref08_Rows_l4 v10 v8 v9 g.1 g.2) (0, v748)))
noncomputable def ref08_Rows_l1 (v10 : List TItem) (v5 : List TRange) (v6 : List TRange) (v7 : List Int) (v8 : List Form) (v9 : Int) (v1 : Int) (v2 : Int) (v3 : Int) (v4 : Int) (v657 : Int) (v658 : List Int) (v659 : List Int) : Option ((Int × List Int × List Int) ⊕ (List Row × Int)) :=
  bif decide (v657 < (v10.length : Int)) then (chk ((v659.length + 1) * 8 ≤ 140737488355328) ((rd v10 v657).bind fun v662 => (ref06_Total v662.ID v662.Version v662.Stem v662.Parts v662.Enemies).bind fun v663 => chk ((v658.length + 1) * 8 ≤ 140737488355328) (contO ((IntKind.i64.wrap (v657 + 1), (v658 ++ [v663]), (v659 ++ [1])) : Int × List Int × List Int)))) else (exitO ((ref08_sums v5 v10 true).bind fun v664 => chk ((2 + v664.length) * 40 ≤ 140737488355328) ((ref08_sums v6 v10 false).bind fun v665 => chk ((2 + v664.length + v665.length) * 40 ≤ 140737488355328) (iter (fun g : Int × List Row => ref08_Rows_l2 v7 v10 v8 v9 g.1 g.2) (0, ((([(Row.mk v659 v1 v2), (Row.mk v658 v3 v4)] ++ v664)) ++ v665))))))
noncomputable def ref08_Rows_l0 (v10 : List TItem) (v5 : List TRange) (v6 : List TRange) (v7 : List Int) (v8 : List Form) (v9 : Int) (v1 : Int) (v2 : Int) (v3 : Int) (v4 : Int) (v632 : Int) : Option ((Int) ⊕ (List Row × Int)) :=
  bif decide (v632 < (v10.length : Int)) then ((rd v10 v632).bind fun v635 => (ref06_Check v635.ID v635.Version v635.Stem v635.Parts v635.Enemies).bind fun v636 => bif decide (¬ v636 = 0) then (exitO (some (([], 1) : List Row × Int))) else (contO (IntKind.i64.wrap (v632 + 1) : Int))) else (exitO (iter (fun g : Int × List Int × List Int => ref08_Rows_l1 v10 v5 v6 v7 v8 v9 v1 v2 v3 v4 g.1 g.2.1 g.2.2) (0, [], [])))
noncomputable def ref08_Rows (v1 : Int) (v2 : Int) (v3 : Int) (v4 : Int) (v5 : List TRange) (v6 : List TRange) (v7 : List Int) (v8 : List Form) (v9 : Int) (v10 : List TItem) : Option (List Row × Int) :=
  (ref08_Check v1 v2 v3 v4 v5 v6 v7 v8 v9).bind fun v615 => bif decide (¬ v615 = 0) then (some (([], v615) : List Row × Int)) else (bif decide ((v10.length : Int) > 12) then (some (([], 3) : List Row × Int)) else (iter (fun g : Int => ref08_Rows_l0 v10 v5 v6 v7 v8 v9 v1 v2 v3 v4 g) 0))
theorem ref08_Rows_ok (v1 : Int) (v2 : Int) (v3 : Int) (v4 : Int) (v5 : List TRange) (v6 : List TRange) (v7 : List Int) (v8 : List Form) (v9 : Int) (v10 : List TItem) (r : List Row × Int) (hx : ref08_Rows v1 v2 v3 v4 v5 v6 v7 v8 v9 v10 = some r) :
    ACalls Try.prog 41 [.agg [.d (.int .i64 v1), .d (.int .i64 v2), .d (.int .i64 v3), .d (.int .i64 v4), .d (.sl (List.map TRange.D v5)), .d (.sl (List.map TRange.D v6)), .d (.sl (List.map iD v7)), .d (.sl (List.map Form.D v8)), .d (.int .i64 v9)], .d (.sl (List.map TItem.D v10))] [] (.tup [.arr 2000 0 r.1.length, .d (.int .i64 r.2)]) [(2000, some (.arr 32 3 (List.map Row.D r.1)))] := by
  refine ACalls.of_sem (n := 220) 0 [4, 5] (fn := Try.f41) Try.func41 rfl rfl (.two rfl) rfl (by simp) (by intro i; simp only [hget]; (repeat' split) <;> simp <;> omega) ?_
  unfold ref08_Rows at hx
  refine Walk.seq (Walk.region' rfl fun K hK => ?_)
  simp only [go_sem, seval]
  refine hK _ ?_
  clear hK K
  refine Walk.seq (Walk.seq (Walk.region' rfl fun K hK => ?_))
  obtain ⟨v615, h2251, hx⟩ := bind_elim hx
  simp only [go_sem, seval]
  refine VCl.pure rfl (by simp only [go_sem, seval]; try simp) (ref08_Check_ok v1 v2 v3 v4 v5 v6 v7 v8 v9 _ h2251) (by simp only [go_sem, seval]; try simp) (by simp only [go_sem, seval]; try simp) (by simp only [go_sem, seval]; try simp) (by simp only [go_sem, seval]; try simp) (by simp only [go_sem, seval]; try simp) (by simp only [go_sem, seval]; try simp) ?_
  simp only [go_sem, seval]
  refine hK _ ?_
  clear hK K
  refine Walk.seq (Walk.region' rfl fun K hK => ?_)
  simp only [go_sem, seval]
  refine hK _ ?_
  clear hK K
  refine Walk.condO rfl hx (fun c2254 hx => ?_) (fun c2254 hx => ?_)
  · refine Walk.seq (Walk.region' rfl fun K hK => ?_)
    simp only [go_sem, seval, c2254]
    refine hK _ ?_
    clear hK K
    refine Walk.weaken ⟨[(4, .nils), (5, .d (.int .i64 v615))], []⟩ (by simp [c2254] <;> omega) (by simp [c2254] <;> omega) ?_
    refine Walk.up 2000 32 3 [(4, .arr 2000 0 0), (5, .d (.int .i64 v615))] [] (by simp) (by simp) (by omega) (by simp) (by simp) (by simp) ?_
    obtain rfl := Option.some.inj hx
    exact Walk.ret ⟨by simp [c2254], by simp [c2254]⟩
  refine Walk.skip (Walk.seq (Walk.region' rfl fun K hK => ?_))
  simp only [go_sem, seval, c2254]
  refine hK _ ?_
  clear hK K
  refine Walk.seq (Walk.seq (Walk.region' rfl fun K hK => ?_))
  simp only [go_sem, seval, c2254]
  refine hK _ ?_
  clear hK K
  refine Walk.condO rfl hx (fun c2257 hx => ?_) (fun c2257 hx => ?_)
  · refine Walk.seq (Walk.region' rfl fun K hK => ?_)
    simp only [go_sem, seval, c2254, c2257]
    refine hK _ ?_
    clear hK K
    refine Walk.weaken ⟨[(4, .nils), (5, .d (.int .i64 3))], []⟩ (by simp [c2254, c2257] <;> omega) (by simp [c2254, c2257] <;> omega) ?_
    refine Walk.up 2000 32 3 [(4, .arr 2000 0 0), (5, .d (.int .i64 3))] [] (by simp) (by simp) (by omega) (by simp) (by simp) (by simp) ?_
    obtain rfl := Option.some.inj hx
    exact Walk.ret ⟨by simp [c2254, c2257], by simp [c2254, c2257]⟩
  refine Walk.skip (Walk.seq (Walk.seq (Walk.region' rfl fun K hK => ?_)))
  simp only [go_sem, seval, c2254, c2257]
  refine hK _ ?_
  clear hK K
  refine Walk.block (Walk.loop ?_)
  refine Walk.weaken ⟨[(1, .d (.sl (List.map TItem.D v10))), (2, .box 2 0), (7, .d (.int .i64 (v10.length : Int))), (8, .d (.int .i64 0))], [(2, some (.box [.d (.int .i64 v1), .d (.int .i64 v2), .d (.int .i64 v3), .d (.int .i64 v4), .d (.sl (List.map TRange.D v5)), .d (.sl (List.map TRange.D v6)), .d (.sl (List.map iD v7)), .d (.sl (List.map Form.D v8)), .d (.int .i64 v9)]))]⟩ (by simp [c2254, c2257] <;> omega) (by simp [c2254, c2257] <;> omega) ?_
  refine Walk.iter (σ := Int) (fun g => ⟨[(1, .d (.sl (List.map TItem.D v10))), (2, .box 2 0), (7, .d (.int .i64 (v10.length : Int))), (8, .d (.int .i64 g))], [(2, some (.box [.d (.int .i64 v1), .d (.int .i64 v2), .d (.int .i64 v3), .d (.int .i64 v4), .d (.sl (List.map TRange.D v5)), .d (.sl (List.map TRange.D v6)), .d (.sl (List.map iD v7)), .d (.sl (List.map Form.D v8)), .d (.int .i64 v9)]))]⟩) (fun g : Int => ref08_Rows_l0 v10 v5 v6 v7 v8 v9 v1 v2 v3 v4 g) _ (fun v632 y4519 hx ih2338 hr2339 => ?_) 0 hx
  unfold ref08_Rows_l0 at hx
  try dsimp only at hx ⊢
  refine Walk.seq (Walk.seq (Walk.region' rfl fun K hK => ?_))
  simp only [go_sem, seval, c2254, c2257]
  refine hK _ ?_
  clear hK K
  refine Walk.condO rfl hx (fun c2342 hx => ?_) (fun c2342 hx => ?_)
  · refine Walk.skip (Walk.seq (Walk.block (Walk.seq (Walk.region' rfl fun K hK => ?_))))
    obtain ⟨v635, r2343, a2344, b2345, c2346, hx⟩ := rd_elim hx
    obtain ⟨v636, h2347, hx⟩ := bind_elim hx
    simp only [go_sem, seval, c2254, c2257, c2342, a2344, b2345, c2346]
    repeat refine And.intro (by first | omega | (simp; done) | (simp; omega)) ?_
    refine VCl.pure rfl (by simp only [go_sem, seval, c2254, c2257, c2342, a2344, b2345, c2346]; try simp) (ref06_Check_ok v635.ID v635.Version v635.Stem v635.Parts v635.Enemies _ h2347) (by simp only [go_sem, seval, c2254, c2257, c2342, a2344, b2345, c2346]; try simp) (by simp only [go_sem, seval, c2254, c2257, c2342, a2344, b2345, c2346]; try simp) (by simp only [go_sem, seval, c2254, c2257, c2342, a2344, b2345, c2346]; try simp) (by simp only [go_sem, seval, c2254, c2257, c2342, a2344, b2345, c2346]; try simp) (by simp only [go_sem, seval, c2254, c2257, c2342, a2344, b2345, c2346]; try simp) (by simp only [go_sem, seval, c2254, c2257, c2342, a2344, b2345, c2346]; try simp) ?_
    simp only [go_sem, seval, c2254, c2257, c2342, a2344, b2345, c2346]
    refine hK _ ?_
    clear hK K
    refine Walk.condO rfl hx (fun c2348 hx => ?_) (fun c2348 hx => ?_)
    · refine Walk.seq (Walk.region' rfl fun K hK => ?_)
      simp only [go_sem, seval, c2254, c2257, c2342, a2344, b2345, c2346, c2348]
      refine hK _ ?_
      clear hK K
      obtain ⟨z2349, e2350, hx⟩ := exit_elim hx
      rw [hr2339 z2349 e2350] at hx
      refine Walk.weaken ⟨[(4, .nils), (5, .d (.int .i64 1))], []⟩ (by simp [c2254, c2257, c2342, a2344, b2345, c2346, c2348] <;> omega) (by simp [c2254, c2257, c2342, a2344, b2345, c2346, c2348] <;> omega) ?_
      refine Walk.up 2000 32 3 [(4, .arr 2000 0 0), (5, .d (.int .i64 1))] [] (by simp) (by simp) (by omega) (by simp) (by simp) (by simp) ?_
      obtain rfl := Option.some.inj hx
      exact Walk.ret ⟨by simp [c2254, c2257, c2342, a2344, b2345, c2346, c2348], by simp [c2254, c2257, c2342, a2344, b2345, c2346, c2348]⟩
    refine Walk.skip (Walk.inBlock (Walk.region' rfl fun K hK => ?_))
    simp only [go_sem, seval, c2254, c2257, c2342, a2344, b2345, c2346, c2348]
    refine hK _ ?_
    clear hK K
    exact Walk.weaken _ (by simp [c2254, c2257, c2342, a2344, b2345, c2346, c2348] <;> omega) (by simp [c2254, c2257, c2342, a2344, b2345, c2346, c2348] <;> omega) (ih2338 _ (cont_elim hx))
  refine Walk.exit rfl ?_
  obtain ⟨z2351, e2352, hx⟩ := exit_elim hx
  rw [hr2339 z2351 e2352] at hx
  refine Walk.seq (Walk.region' rfl fun K hK => ?_)
  simp only [go_sem, seval, c2254, c2257, c2342]
  refine hK _ ?_
  clear hK K
  refine Walk.seq (Walk.region' rfl fun K hK => ?_)
  simp only [go_sem, seval, c2254, c2257, c2342]
  refine hK _ ?_
  clear hK K
  refine Walk.seq (Walk.seq (Walk.region' rfl fun K hK => ?_))
  simp only [go_sem, seval, c2254, c2257, c2342]
  refine hK _ ?_
  clear hK K
  refine Walk.block (Walk.loop ?_)
  refine Walk.weaken ⟨[(1, .d (.sl (List.map TItem.D v10))), (2, .box 2 0), (7, .d (.int .i64 (v10.length : Int))), (9, .box 9 0), (10, .box 10 0), (11, .d (.int .i64 0))], [(2, some (.box [.d (.int .i64 v1), .d (.int .i64 v2), .d (.int .i64 v3), .d (.int .i64 v4), .d (.sl (List.map TRange.D v5)), .d (.sl (List.map TRange.D v6)), .d (.sl (List.map iD v7)), .d (.sl (List.map Form.D v8)), .d (.int .i64 v9)])), (9, some (.box [.nils, .d (.int .i64 v1), .d (.int .i64 v2)])), (10, some (.box [.nils, .d (.int .i64 v3), .d (.int .i64 v4)]))]⟩ (by simp [c2254, c2257, c2342] <;> omega) (by simp [c2254, c2257, c2342] <;> omega) ?_
  refine Walk.up 1060 3 1 [(1, .d (.sl (List.map TItem.D v10))), (2, .box 2 0), (7, .d (.int .i64 (v10.length : Int))), (9, .box 9 0), (10, .box 10 0), (11, .d (.int .i64 0))] [(2, some (.box [.d (.int .i64 v1), .d (.int .i64 v2), .d (.int .i64 v3), .d (.int .i64 v4), .d (.sl (List.map TRange.D v5)), .d (.sl (List.map TRange.D v6)), .d (.sl (List.map iD v7)), .d (.sl (List.map Form.D v8)), .d (.int .i64 v9)])), (9, some (.box [.arr 1060 0 0, .d (.int .i64 v1), .d (.int .i64 v2)])), (10, some (.box [.nils, .d (.int .i64 v3), .d (.int .i64 v4)]))] (by simp) (by simp) (by omega) (by simp) (by simp) (by simp) ?_
  refine Walk.up 1059 3 1 [(1, .d (.sl (List.map TItem.D v10))), (2, .box 2 0), (7, .d (.int .i64 (v10.length : Int))), (9, .box 9 0), (10, .box 10 0), (11, .d (.int .i64 0))] [(2, some (.box [.d (.int .i64 v1), .d (.int .i64 v2), .d (.int .i64 v3), .d (.int .i64 v4), .d (.sl (List.map TRange.D v5)), .d (.sl (List.map TRange.D v6)), .d (.sl (List.map iD v7)), .d (.sl (List.map Form.D v8)), .d (.int .i64 v9)])), (9, some (.box [.arr 1060 0 0, .d (.int .i64 v1), .d (.int .i64 v2)])), (10, some (.box [.arr 1059 0 0, .d (.int .i64 v3), .d (.int .i64 v4)])), (1060, some (.arr 3 1 (List.map iD [])))] (by simp) (by simp) (by omega) (by simp) (by simp) (by simp) ?_
  refine Walk.weaken ⟨[(1, .d (.sl (List.map TItem.D v10))), (2, .box 2 0), (7, .d (.int .i64 (v10.length : Int))), (9, .box 9 0), (10, .box 10 0), (11, .d (.int .i64 0))], [(2, some (.box [.d (.int .i64 v1), .d (.int .i64 v2), .d (.int .i64 v3), .d (.int .i64 v4), .d (.sl (List.map TRange.D v5)), .d (.sl (List.map TRange.D v6)), .d (.sl (List.map iD v7)), .d (.sl (List.map Form.D v8)), .d (.int .i64 v9)])), (9, some (.box [.arr 1060 0 0, .d (.int .i64 v1), .d (.int .i64 v2)])), (10, some (.box [.arr 1059 0 0, .d (.int .i64 v3), .d (.int .i64 v4)])), (1059, some (.arr 3 1 (List.map iD []))), (1060, some (.arr 3 1 (List.map iD [])))]⟩ (by simp [c2254, c2257, c2342] <;> omega) (by simp [c2254, c2257, c2342] <;> omega) ?_
  refine Walk.iter (σ := Int × List Int × List Int) (fun g => ⟨[(1, .d (.sl (List.map TItem.D v10))), (2, .box 2 0), (7, .d (.int .i64 (v10.length : Int))), (9, .box 9 0), (10, .box 10 0), (11, .d (.int .i64 g.1))], [(2, some (.box [.d (.int .i64 v1), .d (.int .i64 v2), .d (.int .i64 v3), .d (.int .i64 v4), .d (.sl (List.map TRange.D v5)), .d (.sl (List.map TRange.D v6)), .d (.sl (List.map iD v7)), .d (.sl (List.map Form.D v8)), .d (.int .i64 v9)])), (9, some (.box [.arr 1060 0 g.2.2.length, .d (.int .i64 v1), .d (.int .i64 v2)])), (10, some (.box [.arr 1059 0 g.2.1.length, .d (.int .i64 v3), .d (.int .i64 v4)])), (1059, some (.arr 3 1 (List.map iD g.2.1))), (1060, some (.arr 3 1 (List.map iD g.2.2)))]⟩) (fun g : Int × List Int × List Int => ref08_Rows_l1 v10 v5 v6 v7 v8 v9 v1 v2 v3 v4 g.1 g.2.1 g.2.2) _ (fun g y4518 hx ih2435 hr2436 => ?_) (0, [], []) hx
  obtain ⟨v657, v658, v659⟩ := g
  unfold ref08_Rows_l1 at hx
  try dsimp only at hx ⊢
  refine Walk.seq (Walk.seq (Walk.region' rfl fun K hK => ?_))
  simp only [go_sem, seval, c2254, c2257, c2342]
  refine hK _ ?_
  clear hK K
  refine Walk.condO rfl hx (fun c2439 hx => ?_) (fun c2439 hx => ?_)
  · refine Walk.skip (Walk.seq (Walk.block (Walk.seq (Walk.region' rfl fun K hK => ?_))))
    obtain ⟨k2440, hx⟩ := chk_elim hx
    simp only [go_sem, seval, c2254, c2257, c2342, c2439, k2440]
    repeat refine And.intro (by first | omega | (simp; done) | (simp; omega)) ?_
    refine hK _ ?_
    clear hK K
    refine Walk.weaken ⟨[(1, .d (.sl (List.map TItem.D v10))), (2, .box 2 0), (7, .d (.int .i64 (v10.length : Int))), (9, .box 9 0), (10, .box 10 0), (11, .d (.int .i64 v657))], [(2, some (.box [.d (.int .i64 v1), .d (.int .i64 v2), .d (.int .i64 v3), .d (.int .i64 v4), .d (.sl (List.map TRange.D v5)), .d (.sl (List.map TRange.D v6)), .d (.sl (List.map iD v7)), .d (.sl (List.map Form.D v8)), .d (.int .i64 v9)])), (9, some (.box [.arr 1060 0 ((v659 ++ [1]).length), .d (.int .i64 v1), .d (.int .i64 v2)])), (10, some (.box [.arr 1059 0 v658.length, .d (.int .i64 v3), .d (.int .i64 v4)])), (1059, some (.arr 3 1 (List.map iD v658))), (1060, some (.arr 3 1 (List.map iD (v659 ++ [1]))))]⟩ (by simp [c2254, c2257, c2342, c2439, k2440] <;> omega) (by simp [c2254, c2257, c2342, c2439, k2440] <;> omega) ?_
    refine Walk.drawn' rfl mixed fun K hK => ?_
    obtain ⟨v662, r2441, a2442, b2443, c2444, hx⟩ := rd_elim hx
    obtain ⟨v663, h2445, hx⟩ := bind_elim hx
    simp only [go_sem, seval, c2254, c2257, c2342, c2439, k2440, a2442, b2443, c2444]
    repeat refine And.intro (by first | omega | (simp; done) | (simp; omega)) ?_
    refine VCl.pure rfl (by simp only [go_sem, seval, c2254, c2257, c2342, c2439, k2440, a2442, b2443, c2444]; try simp) (ref06_Total_ok v662.ID v662.Version v662.Stem v662.Parts v662.Enemies _ h2445) (by simp only [go_sem, seval, c2254, c2257, c2342, c2439, k2440, a2442, b2443, c2444]; try simp) (by simp only [go_sem, seval, c2254, c2257, c2342, c2439, k2440, a2442, b2443, c2444]; try simp) (by simp only [go_sem, seval, c2254, c2257, c2342, c2439, k2440, a2442, b2443, c2444]; try simp) (by simp only [go_sem, seval, c2254, c2257, c2342, c2439, k2440, a2442, b2443, c2444]; try simp) (by simp only [go_sem, seval, c2254, c2257, c2342, c2439, k2440, a2442, b2443, c2444]; try simp) (by simp only [go_sem, seval, c2254, c2257, c2342, c2439, k2440, a2442, b2443, c2444]; try simp) ?_
    obtain ⟨k2446, hx⟩ := chk_elim hx
    simp only [go_sem, seval, c2254, c2257, c2342, c2439, k2440, a2442, b2443, c2444, k2446]
    repeat refine And.intro (by first | omega | (simp; done) | (simp; omega)) ?_
    refine hK _ _ (by kernel_rfl) (by simp [c2254, c2257, c2342, c2439, k2440, a2442, b2443, c2444, k2446]) ?_
    clear hK K
    refine Walk.weaken ⟨[(1, .d (.sl (List.map TItem.D v10))), (2, .box 2 0), (7, .d (.int .i64 (v10.length : Int))), (9, .box 9 0), (10, .box 10 0), (11, .d (.int .i64 v657))], [(2, some (.box [.d (.int .i64 v1), .d (.int .i64 v2), .d (.int .i64 v3), .d (.int .i64 v4), .d (.sl (List.map TRange.D v5)), .d (.sl (List.map TRange.D v6)), .d (.sl (List.map iD v7)), .d (.sl (List.map Form.D v8)), .d (.int .i64 v9)])), (9, some (.box [.arr 1060 0 ((v659 ++ [1]).length), .d (.int .i64 v1), .d (.int .i64 v2)])), (10, some (.box [.arr 1059 0 ((v658 ++ [v663]).length), .d (.int .i64 v3), .d (.int .i64 v4)])), (1059, some (.arr 3 1 (List.map iD (v658 ++ [v663])))), (1060, some (.arr 3 1 (List.map iD (v659 ++ [1]))))]⟩ (by simp [c2254, c2257, c2342, c2439, k2440, a2442, b2443, c2444, k2446] <;> omega) (by simp [c2254, c2257, c2342, c2439, k2440, a2442, b2443, c2444, k2446] <;> omega) ?_
    refine Walk.inBlock (Walk.region' rfl fun K hK => ?_)
    simp only [go_sem, seval, c2254, c2257, c2342, c2439, k2440, a2442, b2443, c2444, k2446]
    refine hK _ ?_
    clear hK K
    exact Walk.weaken _ (by simp [c2254, c2257, c2342, c2439, k2440, a2442, b2443, c2444, k2446] <;> omega) (by simp [c2254, c2257, c2342, c2439, k2440, a2442, b2443, c2444, k2446] <;> omega) (ih2435 _ (cont_elim hx))
  refine Walk.exit rfl ?_
  obtain ⟨z2447, e2448, hx⟩ := exit_elim hx
  rw [hr2436 z2447 e2448] at hx
  refine Walk.seq (Walk.region' rfl fun K hK => ?_)
  simp only [go_sem, seval, c2254, c2257, c2342, c2439]
  refine hK _ ?_
  clear hK K
  refine Walk.weaken ⟨[(1, .d (.sl (List.map TItem.D v10))), (2, .box 2 0), (7, .d (.int .i64 (v10.length : Int))), (12, .arr 75 0 2)], [(2, some (.box [.d (.int .i64 v1), .d (.int .i64 v2), .d (.int .i64 v3), .d (.int .i64 v4), .d (.sl (List.map TRange.D v5)), .d (.sl (List.map TRange.D v6)), .d (.sl (List.map iD v7)), .d (.sl (List.map Form.D v8)), .d (.int .i64 v9)])), (75, some (.arr 32 3 (List.map Row.D [(Row.mk v659 v1 v2), (Row.mk v658 v3 v4)])))]⟩ (by simp [c2254, c2257, c2342, c2439] <;> omega) (by simp [c2254, c2257, c2342, c2439] <;> omega) ?_
  refine Walk.seq (Walk.region' rfl fun K hK => ?_)
  obtain ⟨v664, h2449, hx⟩ := bind_elim hx
  have w2450 := ((ref08_sums_ok v5 v10 true _ h2449).swap 2000 1061)
  simp only [renE, renL, AV.ren, AV.rens, AObj.ren, swp, Option.map_some, reduceIte, Nat.reduceEqDiff] at w2450
  simp only [go_sem, seval, c2254, c2257, c2342, c2439]
  refine VCl.pure rfl (by simp only [go_sem, seval, c2254, c2257, c2342, c2439]; try simp) (w2450) (by simp only [go_sem, seval, c2254, c2257, c2342, c2439]; try simp) (by simp only [go_sem, seval, c2254, c2257, c2342, c2439]; try simp) (by simp only [go_sem, seval, c2254, c2257, c2342, c2439]; try simp) (by simp only [go_sem, seval, c2254, c2257, c2342, c2439]; try simp) (by simp only [go_sem, seval, c2254, c2257, c2342, c2439]; try simp) (by simp only [go_sem, seval, c2254, c2257, c2342, c2439]; try simp) ?_
  obtain ⟨k2451, hx⟩ := chk_elim hx
  simp only [go_sem, seval, c2254, c2257, c2342, c2439, k2451]
  repeat refine And.intro (by first | omega | (simp; done) | (simp; omega)) ?_
  refine hK _ ?_
  clear hK K
  refine Walk.weaken ⟨[(1, .d (.sl (List.map TItem.D v10))), (2, .box 2 0), (7, .d (.int .i64 (v10.length : Int))), (12, .arr 75 0 ((([(Row.mk v659 v1 v2), (Row.mk v658 v3 v4)] ++ v664)).length))], [(2, some (.box [.d (.int .i64 v1), .d (.int .i64 v2), .d (.int .i64 v3), .d (.int .i64 v4), .d (.sl (List.map TRange.D v5)), .d (.sl (List.map TRange.D v6)), .d (.sl (List.map iD v7)), .d (.sl (List.map Form.D v8)), .d (.int .i64 v9)])), (75, some (.arr 32 3 (List.map Row.D (([(Row.mk v659 v1 v2), (Row.mk v658 v3 v4)] ++ v664)))))]⟩ (by simp [c2254, c2257, c2342, c2439, k2451] <;> omega) (by simp [c2254, c2257, c2342, c2439, k2451] <;> omega) ?_
  refine Walk.seq (Walk.region' rfl fun K hK => ?_)
  obtain ⟨v665, h2452, hx⟩ := bind_elim hx
  have w2453 := ((ref08_sums_ok v6 v10 false _ h2452).swap 2000 1062)
  simp only [renE, renL, AV.ren, AV.rens, AObj.ren, swp, Option.map_some, reduceIte, Nat.reduceEqDiff] at w2453
  simp only [go_sem, seval, c2254, c2257, c2342, c2439, k2451]
  refine VCl.pure rfl (by simp only [go_sem, seval, c2254, c2257, c2342, c2439, k2451]; try simp) (w2453) (by simp only [go_sem, seval, c2254, c2257, c2342, c2439, k2451]; try simp) (by simp only [go_sem, seval, c2254, c2257, c2342, c2439, k2451]; try simp) (by simp only [go_sem, seval, c2254, c2257, c2342, c2439, k2451]; try simp) (by simp only [go_sem, seval, c2254, c2257, c2342, c2439, k2451]; try simp) (by simp only [go_sem, seval, c2254, c2257, c2342, c2439, k2451]; try simp) (by simp only [go_sem, seval, c2254, c2257, c2342, c2439, k2451]; try simp) ?_
  obtain ⟨k2454, hx⟩ := chk_elim hx
  simp only [go_sem, seval, c2254, c2257, c2342, c2439, k2451, k2454]
  repeat refine And.intro (by first | omega | (simp; done) | (simp; omega)) ?_
  refine hK _ ?_
  clear hK K
  refine Walk.weaken ⟨[(1, .d (.sl (List.map TItem.D v10))), (2, .box 2 0), (7, .d (.int .i64 (v10.length : Int))), (12, .arr 75 0 ((((([(Row.mk v659 v1 v2), (Row.mk v658 v3 v4)] ++ v664)) ++ v665)).length))], [(2, some (.box [.d (.int .i64 v1), .d (.int .i64 v2), .d (.int .i64 v3), .d (.int .i64 v4), .d (.sl (List.map TRange.D v5)), .d (.sl (List.map TRange.D v6)), .d (.sl (List.map iD v7)), .d (.sl (List.map Form.D v8)), .d (.int .i64 v9)])), (75, some (.arr 32 3 (List.map Row.D (((([(Row.mk v659 v1 v2), (Row.mk v658 v3 v4)] ++ v664)) ++ v665)))))]⟩ (by simp [c2254, c2257, c2342, c2439, k2451, k2454] <;> omega) (by simp [c2254, c2257, c2342, c2439, k2451, k2454] <;> omega) ?_
  refine Walk.seq (Walk.seq (Walk.region' rfl fun K hK => ?_))
  simp only [go_sem, seval, c2254, c2257, c2342, c2439, k2451, k2454]
  refine hK _ ?_
  clear hK K
  refine Walk.block (Walk.loop ?_)
  refine Walk.weaken ⟨[(1, .d (.sl (List.map TItem.D v10))), (2, .box 2 0), (7, .d (.int .i64 (v10.length : Int))), (12, .arr 75 0 ((((([(Row.mk v659 v1 v2), (Row.mk v658 v3 v4)] ++ v664)) ++ v665)).length)), (13, .d (.int .i64 0))], [(2, some (.box [.d (.int .i64 v1), .d (.int .i64 v2), .d (.int .i64 v3), .d (.int .i64 v4), .d (.sl (List.map TRange.D v5)), .d (.sl (List.map TRange.D v6)), .d (.sl (List.map iD v7)), .d (.sl (List.map Form.D v8)), .d (.int .i64 v9)])), (75, some (.arr 32 3 (List.map Row.D (((([(Row.mk v659 v1 v2), (Row.mk v658 v3 v4)] ++ v664)) ++ v665)))))]⟩ (by simp [c2254, c2257, c2342, c2439, k2451, k2454] <;> omega) (by simp [c2254, c2257, c2342, c2439, k2451, k2454] <;> omega) ?_
  refine Walk.iter (σ := Int × List Row) (fun g => ⟨[(1, .d (.sl (List.map TItem.D v10))), (2, .box 2 0), (7, .d (.int .i64 (v10.length : Int))), (12, .arr 75 0 g.2.length), (13, .d (.int .i64 g.1))], [(2, some (.box [.d (.int .i64 v1), .d (.int .i64 v2), .d (.int .i64 v3), .d (.int .i64 v4), .d (.sl (List.map TRange.D v5)), .d (.sl (List.map TRange.D v6)), .d (.sl (List.map iD v7)), .d (.sl (List.map Form.D v8)), .d (.int .i64 v9)])), (75, some (.arr 32 3 (List.map Row.D g.2)))]⟩) (fun g : Int × List Row => ref08_Rows_l2 v7 v10 v8 v9 g.1 g.2) _ (fun g y4517 hx ih2831 hr2832 => ?_) (0, ((([(Row.mk v659 v1 v2), (Row.mk v658 v3 v4)] ++ v664)) ++ v665)) hx
  obtain ⟨v747, v748⟩ := g
  unfold ref08_Rows_l2 at hx
  try dsimp only at hx ⊢
  refine Walk.seq (Walk.seq (Walk.region' rfl fun K hK => ?_))
  simp only [go_sem, seval, c2254, c2257, c2342, c2439, k2451, k2454]
  refine hK _ ?_
  clear hK K
  refine Walk.condO rfl hx (fun c2835 hx => ?_) (fun c2835 hx => ?_)
  · refine Walk.skip (Walk.seq (Walk.block (Walk.seq (Walk.region' rfl fun K hK => ?_))))
    simp only [go_sem, seval, c2254, c2257, c2342, c2439, k2451, k2454, c2835]
    refine hK _ ?_
    clear hK K
    refine Walk.seq (Walk.seq (Walk.region' rfl fun K hK => ?_))
    simp only [go_sem, seval, c2254, c2257, c2342, c2439, k2451, k2454, c2835]
    refine hK _ ?_
    clear hK K
    refine Walk.block (Walk.loop ?_)
    refine Walk.weaken ⟨[(1, .d (.sl (List.map TItem.D v10))), (2, .box 2 0), (7, .d (.int .i64 (v10.length : Int))), (12, .arr 75 0 v748.length), (13, .d (.int .i64 v747)), (14, .box 14 0), (15, .d (.int .i64 0))], [(2, some (.box [.d (.int .i64 v1), .d (.int .i64 v2), .d (.int .i64 v3), .d (.int .i64 v4), .d (.sl (List.map TRange.D v5)), .d (.sl (List.map TRange.D v6)), .d (.sl (List.map iD v7)), .d (.sl (List.map Form.D v8)), .d (.int .i64 v9)])), (14, some (.box [.nils, .d (.int .i64 1), .d (.int .i64 1)])), (75, some (.arr 32 3 (List.map Row.D v748)))]⟩ (by simp [c2254, c2257, c2342, c2439, k2451, k2454, c2835] <;> omega) (by simp [c2254, c2257, c2342, c2439, k2451, k2454, c2835] <;> omega) ?_
    refine Walk.up 1071 3 1 [(1, .d (.sl (List.map TItem.D v10))), (2, .box 2 0), (7, .d (.int .i64 (v10.length : Int))), (12, .arr 75 0 v748.length), (13, .d (.int .i64 v747)), (14, .box 14 0), (15, .d (.int .i64 0))] [(2, some (.box [.d (.int .i64 v1), .d (.int .i64 v2), .d (.int .i64 v3), .d (.int .i64 v4), .d (.sl (List.map TRange.D v5)), .d (.sl (List.map TRange.D v6)), .d (.sl (List.map iD v7)), .d (.sl (List.map Form.D v8)), .d (.int .i64 v9)])), (14, some (.box [.arr 1071 0 0, .d (.int .i64 1), .d (.int .i64 1)])), (75, some (.arr 32 3 (List.map Row.D v748)))] (by simp) (by simp) (by omega) (by simp) (by simp) (by simp) ?_
    refine Walk.weaken ⟨[(1, .d (.sl (List.map TItem.D v10))), (2, .box 2 0), (7, .d (.int .i64 (v10.length : Int))), (12, .arr 75 0 v748.length), (13, .d (.int .i64 v747)), (14, .box 14 0), (15, .d (.int .i64 0))], [(2, some (.box [.d (.int .i64 v1), .d (.int .i64 v2), .d (.int .i64 v3), .d (.int .i64 v4), .d (.sl (List.map TRange.D v5)), .d (.sl (List.map TRange.D v6)), .d (.sl (List.map iD v7)), .d (.sl (List.map Form.D v8)), .d (.int .i64 v9)])), (14, some (.box [.arr 1071 0 0, .d (.int .i64 1), .d (.int .i64 1)])), (75, some (.arr 32 3 (List.map Row.D v748))), (1071, some (.arr 3 1 (List.map iD [])))]⟩ (by simp [c2254, c2257, c2342, c2439, k2451, k2454, c2835] <;> omega) (by simp [c2254, c2257, c2342, c2439, k2451, k2454, c2835] <;> omega) ?_
    refine Walk.iter (σ := Int × List Int) (fun g => ⟨[(1, .d (.sl (List.map TItem.D v10))), (2, .box 2 0), (7, .d (.int .i64 (v10.length : Int))), (12, .arr 75 0 v748.length), (13, .d (.int .i64 v747)), (14, .box 14 0), (15, .d (.int .i64 g.1))], [(2, some (.box [.d (.int .i64 v1), .d (.int .i64 v2), .d (.int .i64 v3), .d (.int .i64 v4), .d (.sl (List.map TRange.D v5)), .d (.sl (List.map TRange.D v6)), .d (.sl (List.map iD v7)), .d (.sl (List.map Form.D v8)), .d (.int .i64 v9)])), (14, some (.box [.arr 1071 0 g.2.length, .d (.int .i64 1), .d (.int .i64 1)])), (75, some (.arr 32 3 (List.map Row.D v748))), (1071, some (.arr 3 1 (List.map iD g.2)))]⟩) (fun g : Int × List Int => ref08_Rows_l3 v10 v7 v747 v748 g.1 g.2) _ (fun g y2879 hx ih2861 hr2862 => ?_) (0, []) hx
    obtain ⟨v763, v764⟩ := g
    unfold ref08_Rows_l3 at hx
    try dsimp only at hx ⊢
    refine Walk.seq (Walk.seq (Walk.region' rfl fun K hK => ?_))
    simp only [go_sem, seval, c2254, c2257, c2342, c2439, k2451, k2454, c2835]
    refine hK _ ?_
    clear hK K
    refine Walk.condO rfl hx (fun c2865 hx => ?_) (fun c2865 hx => ?_)
    · refine Walk.skip (Walk.seq (Walk.block (Walk.drawn' rfl mixed fun K hK => ?_)))
      obtain ⟨v768, r2866, a2867, b2868, c2869, hx⟩ := rd_elim hx
      obtain ⟨v769, r2870, a2871, b2872, c2873, hx⟩ := rd_elim hx
      obtain ⟨v770, h2874, hx⟩ := bind_elim hx
      simp only [go_sem, seval, c2254, c2257, c2342, c2439, k2451, k2454, c2835, c2865, a2867, b2868, c2869, a2871, b2872, c2873]
      repeat refine And.intro (by first | omega | (simp; done) | (simp; omega)) ?_
      refine VCl.pure rfl (by simp only [go_sem, seval, c2254, c2257, c2342, c2439, k2451, k2454, c2835, c2865, a2867, b2868, c2869, a2871, b2872, c2873]; try simp) (ref08_one_ok (decide (v768.ID = v769)) _ h2874) (by simp only [go_sem, seval, c2254, c2257, c2342, c2439, k2451, k2454, c2835, c2865, a2867, b2868, c2869, a2871, b2872, c2873]; try simp) (by simp only [go_sem, seval, c2254, c2257, c2342, c2439, k2451, k2454, c2835, c2865, a2867, b2868, c2869, a2871, b2872, c2873]; try simp) (by simp only [go_sem, seval, c2254, c2257, c2342, c2439, k2451, k2454, c2835, c2865, a2867, b2868, c2869, a2871, b2872, c2873]; try simp) (by simp only [go_sem, seval, c2254, c2257, c2342, c2439, k2451, k2454, c2835, c2865, a2867, b2868, c2869, a2871, b2872, c2873]; try simp) (by simp only [go_sem, seval, c2254, c2257, c2342, c2439, k2451, k2454, c2835, c2865, a2867, b2868, c2869, a2871, b2872, c2873]; try simp) (by simp only [go_sem, seval, c2254, c2257, c2342, c2439, k2451, k2454, c2835, c2865, a2867, b2868, c2869, a2871, b2872, c2873]; try simp) ?_
      obtain ⟨k2875, hx⟩ := chk_elim hx
      simp only [go_sem, seval, c2254, c2257, c2342, c2439, k2451, k2454, c2835, c2865, a2867, b2868, c2869, a2871, b2872, c2873, k2875]
      repeat refine And.intro (by first | omega | (simp; done) | (simp; omega)) ?_
      refine hK _ _ (by kernel_rfl) (by simp [c2254, c2257, c2342, c2439, k2451, k2454, c2835, c2865, a2867, b2868, c2869, a2871, b2872, c2873, k2875]) ?_
      clear hK K
      refine Walk.weaken ⟨[(1, .d (.sl (List.map TItem.D v10))), (2, .box 2 0), (7, .d (.int .i64 (v10.length : Int))), (12, .arr 75 0 v748.length), (13, .d (.int .i64 v747)), (14, .box 14 0), (15, .d (.int .i64 v763))], [(2, some (.box [.d (.int .i64 v1), .d (.int .i64 v2), .d (.int .i64 v3), .d (.int .i64 v4), .d (.sl (List.map TRange.D v5)), .d (.sl (List.map TRange.D v6)), .d (.sl (List.map iD v7)), .d (.sl (List.map Form.D v8)), .d (.int .i64 v9)])), (14, some (.box [.arr 1071 0 ((v764 ++ [v770]).length), .d (.int .i64 1), .d (.int .i64 1)])), (75, some (.arr 32 3 (List.map Row.D v748))), (1071, some (.arr 3 1 (List.map iD (v764 ++ [v770]))))]⟩ (by simp [c2254, c2257, c2342, c2439, k2451, k2454, c2835, c2865, a2867, b2868, c2869, a2871, b2872, c2873, k2875] <;> omega) (by simp [c2254, c2257, c2342, c2439, k2451, k2454, c2835, c2865, a2867, b2868, c2869, a2871, b2872, c2873, k2875] <;> omega) ?_
      refine Walk.inBlock (Walk.region' rfl fun K hK => ?_)
      simp only [go_sem, seval, c2254, c2257, c2342, c2439, k2451, k2454, c2835, c2865, a2867, b2868, c2869, a2871, b2872, c2873, k2875]
      refine hK _ ?_
      clear hK K
      exact Walk.weaken _ (by simp [c2254, c2257, c2342, c2439, k2451, k2454, c2835, c2865, a2867, b2868, c2869, a2871, b2872, c2873, k2875] <;> omega) (by simp [c2254, c2257, c2342, c2439, k2451, k2454, c2835, c2865, a2867, b2868, c2869, a2871, b2872, c2873, k2875] <;> omega) (ih2861 _ (cont_elim hx))
    refine Walk.exit rfl ?_
    obtain ⟨z2876, e2877, hx⟩ := exit_elim hx
    rw [hr2862 z2876 e2877] at hx
    refine Walk.region' rfl fun K hK => ?_
    obtain ⟨k2878, hx⟩ := chk_elim hx
    simp only [go_sem, seval, c2254, c2257, c2342, c2439, k2451, k2454, c2835, c2865, k2878]
    repeat refine And.intro (by first | omega | (simp; done) | (simp; omega)) ?_
    refine hK _ ?_
    clear hK K
    refine Walk.weaken ⟨[(1, .d (.sl (List.map TItem.D v10))), (2, .box 2 0), (7, .d (.int .i64 (v10.length : Int))), (12, .arr 75 0 (((v748 ++ [(Row.mk v764 1 1)])).length)), (13, .d (.int .i64 v747))], [(2, some (.box [.d (.int .i64 v1), .d (.int .i64 v2), .d (.int .i64 v3), .d (.int .i64 v4), .d (.sl (List.map TRange.D v5)), .d (.sl (List.map TRange.D v6)), .d (.sl (List.map iD v7)), .d (.sl (List.map Form.D v8)), .d (.int .i64 v9)])), (75, some (.arr 32 3 (List.map Row.D ((v748 ++ [(Row.mk v764 1 1)])))))]⟩ (by simp [c2254, c2257, c2342, c2439, k2451, k2454, c2835, c2865, k2878] <;> omega) (by simp [c2254, c2257, c2342, c2439, k2451, k2454, c2835, c2865, k2878] <;> omega) ?_
    refine Walk.inBlock (Walk.region' rfl fun K hK => ?_)
    simp only [go_sem, seval, c2254, c2257, c2342, c2439, k2451, k2454, c2835, c2865, k2878]
    refine hK _ ?_
    clear hK K
    exact Walk.weaken _ (by simp [c2254, c2257, c2342, c2439, k2451, k2454, c2835, c2865, k2878] <;> omega) (by simp [c2254, c2257, c2342, c2439, k2451, k2454, c2835, c2865, k2878] <;> omega) (ih2831 _ (cont_elim hx))
  refine Walk.exit rfl ?_
  obtain ⟨z2880, e2881, hx⟩ := exit_elim hx
  rw [hr2832 z2880 e2881] at hx
  refine Walk.seq (Walk.seq (Walk.region' rfl fun K hK => ?_))
  simp only [go_sem, seval, c2254, c2257, c2342, c2439, k2451, k2454, c2835]
  refine hK _ ?_
  clear hK K
  refine Walk.block (Walk.loop ?_)
  refine Walk.weaken ⟨[(1, .d (.sl (List.map TItem.D v10))), (2, .box 2 0), (7, .d (.int .i64 (v10.length : Int))), (12, .arr 75 0 v748.length), (16, .d (.int .i64 0))], [(2, some (.box [.d (.int .i64 v1), .d (.int .i64 v2), .d (.int .i64 v3), .d (.int .i64 v4), .d (.sl (List.map TRange.D v5)), .d (.sl (List.map TRange.D v6)), .d (.sl (List.map iD v7)), .d (.sl (List.map Form.D v8)), .d (.int .i64 v9)])), (75, some (.arr 32 3 (List.map Row.D v748)))]⟩ (by simp [c2254, c2257, c2342, c2439, k2451, k2454, c2835] <;> omega) (by simp [c2254, c2257, c2342, c2439, k2451, k2454, c2835] <;> omega) ?_
  refine Walk.iter (σ := Int × List Row) (fun g => ⟨[(1, .d (.sl (List.map TItem.D v10))), (2, .box 2 0), (7, .d (.int .i64 (v10.length : Int))), (12, .arr 75 0 g.2.length), (16, .d (.int .i64 g.1))], [(2, some (.box [.d (.int .i64 v1), .d (.int .i64 v2), .d (.int .i64 v3), .d (.int .i64 v4), .d (.sl (List.map TRange.D v5)), .d (.sl (List.map TRange.D v6)), .d (.sl (List.map iD v7)), .d (.sl (List.map Form.D v8)), .d (.int .i64 v9)])), (75, some (.arr 32 3 (List.map Row.D g.2)))]⟩) (fun g : Int × List Row => ref08_Rows_l4 v10 v8 v9 g.1 g.2) _ (fun g y4516 hx ih3912 hr3913 => ?_) (0, v748) hx
  obtain ⟨v1011, v1012⟩ := g
  unfold ref08_Rows_l4 at hx
  try dsimp only at hx ⊢
  refine Walk.seq (Walk.seq (Walk.region' rfl fun K hK => ?_))
  simp only [go_sem, seval, c2254, c2257, c2342, c2439, k2451, k2454, c2835]
  refine hK _ ?_
  clear hK K
  refine Walk.condO rfl hx (fun c3916 hx => ?_) (fun c3916 hx => ?_)
  · refine Walk.skip (Walk.seq (Walk.block (Walk.seq (Walk.region' rfl fun K hK => ?_))))
    simp only [go_sem, seval, c2254, c2257, c2342, c2439, k2451, k2454, c2835, c3916]
    refine hK _ ?_
    clear hK K
    refine Walk.block (Walk.loop ?_)
    refine Walk.weaken ⟨[(1, .d (.sl (List.map TItem.D v10))), (2, .box 2 0), (7, .d (.int .i64 (v10.length : Int))), (12, .arr 75 0 v1012.length), (16, .d (.int .i64 v1011)), (17, .d (.int .i64 ((IntKind.i64.wrap (v1011 + 1)))))], [(2, some (.box [.d (.int .i64 v1), .d (.int .i64 v2), .d (.int .i64 v3), .d (.int .i64 v4), .d (.sl (List.map TRange.D v5)), .d (.sl (List.map TRange.D v6)), .d (.sl (List.map iD v7)), .d (.sl (List.map Form.D v8)), .d (.int .i64 v9)])), (75, some (.arr 32 3 (List.map Row.D v1012)))]⟩ (by simp [c2254, c2257, c2342, c2439, k2451, k2454, c2835, c3916] <;> omega) (by simp [c2254, c2257, c2342, c2439, k2451, k2454, c2835, c3916] <;> omega) ?_
    refine Walk.iter (σ := Int × List Row) (fun g => ⟨[(1, .d (.sl (List.map TItem.D v10))), (2, .box 2 0), (7, .d (.int .i64 (v10.length : Int))), (12, .arr 75 0 g.2.length), (16, .d (.int .i64 v1011)), (17, .d (.int .i64 g.1))], [(2, some (.box [.d (.int .i64 v1), .d (.int .i64 v2), .d (.int .i64 v3), .d (.int .i64 v4), .d (.sl (List.map TRange.D v5)), .d (.sl (List.map TRange.D v6)), .d (.sl (List.map iD v7)), .d (.sl (List.map Form.D v8)), .d (.int .i64 v9)])), (75, some (.arr 32 3 (List.map Row.D g.2)))]⟩) (fun g : Int × List Row => ref08_Rows_l5 v10 v1011 g.1 g.2) _ (fun g y4057 hx ih3999 hr4000 => ?_) (IntKind.i64.wrap (v1011 + 1), v1012) hx
    obtain ⟨v1059, v1060⟩ := g
    unfold ref08_Rows_l5 at hx
    try dsimp only at hx ⊢
    refine Walk.seq (Walk.seq (Walk.region' rfl fun K hK => ?_))
    simp only [go_sem, seval, c2254, c2257, c2342, c2439, k2451, k2454, c2835, c3916]
    refine hK _ ?_
    clear hK K
    refine Walk.condO rfl hx (fun c4003 hx => ?_) (fun c4003 hx => ?_)
    · refine Walk.skip (Walk.seq (Walk.block (Walk.seq (Walk.join (G := Unit) (fun g => ⟨[(1, .d (.sl (List.map TItem.D v10))), (2, .box 2 0), (7, .d (.int .i64 (v10.length : Int))), (12, .arr 75 0 v1060.length), (16, .d (.int .i64 v1011)), (17, .d (.int .i64 v1059))], [(2, some (.box [.d (.int .i64 v1), .d (.int .i64 v2), .d (.int .i64 v3), .d (.int .i64 v4), .d (.sl (List.map TRange.D v5)), .d (.sl (List.map TRange.D v6)), .d (.sl (List.map iD v7)), .d (.sl (List.map Form.D v8)), .d (.int .i64 v9)])), (75, some (.arr 32 3 (List.map Row.D v1060)))]⟩) (fun g => ref08_Rows_j6 v10 v1011 v1059 v1060) hx (fun g hx => ?_) (fun fin4015 => ?_)))))
      · unfold ref08_Rows_j6 at hx
        try dsimp only at hx ⊢
        refine Walk.seq (Walk.region' rfl fun K hK => ?_)
        simp only [go_sem, seval, c2254, c2257, c2342, c2439, k2451, k2454, c2835, c3916, c4003]
        refine hK _ ?_
        clear hK K
        refine Walk.seq (Walk.seq (Walk.region' rfl fun K hK => ?_))
        simp only [go_sem, seval, c2254, c2257, c2342, c2439, k2451, k2454, c2835, c3916, c4003]
        refine hK _ ?_
        clear hK K
        refine Walk.block (Walk.loop ?_)
        refine Walk.weaken ⟨[(1, .d (.sl (List.map TItem.D v10))), (2, .box 2 0), (7, .d (.int .i64 (v10.length : Int))), (12, .arr 75 0 v1060.length), (16, .d (.int .i64 v1011)), (17, .d (.int .i64 v1059)), (18, .box 18 0), (19, .d (.int .i64 0))], [(2, some (.box [.d (.int .i64 v1), .d (.int .i64 v2), .d (.int .i64 v3), .d (.int .i64 v4), .d (.sl (List.map TRange.D v5)), .d (.sl (List.map TRange.D v6)), .d (.sl (List.map iD v7)), .d (.sl (List.map Form.D v8)), .d (.int .i64 v9)])), (18, some (.box [.nils, .d (.int .i64 0), .d (.int .i64 1)])), (75, some (.arr 32 3 (List.map Row.D v1060)))]⟩ (by simp [c2254, c2257, c2342, c2439, k2451, k2454, c2835, c3916, c4003] <;> omega) (by simp [c2254, c2257, c2342, c2439, k2451, k2454, c2835, c3916, c4003] <;> omega) ?_
        refine Walk.up 1098 3 1 [(1, .d (.sl (List.map TItem.D v10))), (2, .box 2 0), (7, .d (.int .i64 (v10.length : Int))), (12, .arr 75 0 v1060.length), (16, .d (.int .i64 v1011)), (17, .d (.int .i64 v1059)), (18, .box 18 0), (19, .d (.int .i64 0))] [(2, some (.box [.d (.int .i64 v1), .d (.int .i64 v2), .d (.int .i64 v3), .d (.int .i64 v4), .d (.sl (List.map TRange.D v5)), .d (.sl (List.map TRange.D v6)), .d (.sl (List.map iD v7)), .d (.sl (List.map Form.D v8)), .d (.int .i64 v9)])), (18, some (.box [.arr 1098 0 0, .d (.int .i64 0), .d (.int .i64 1)])), (75, some (.arr 32 3 (List.map Row.D v1060)))] (by simp) (by simp) (by omega) (by simp) (by simp) (by simp) ?_
        refine Walk.weaken ⟨[(1, .d (.sl (List.map TItem.D v10))), (2, .box 2 0), (7, .d (.int .i64 (v10.length : Int))), (12, .arr 75 0 v1060.length), (16, .d (.int .i64 v1011)), (17, .d (.int .i64 v1059)), (18, .box 18 0), (19, .d (.int .i64 0))], [(2, some (.box [.d (.int .i64 v1), .d (.int .i64 v2), .d (.int .i64 v3), .d (.int .i64 v4), .d (.sl (List.map TRange.D v5)), .d (.sl (List.map TRange.D v6)), .d (.sl (List.map iD v7)), .d (.sl (List.map Form.D v8)), .d (.int .i64 v9)])), (18, some (.box [.arr 1098 0 0, .d (.int .i64 0), .d (.int .i64 1)])), (75, some (.arr 32 3 (List.map Row.D v1060))), (1098, some (.arr 3 1 (List.map iD [])))]⟩ (by simp [c2254, c2257, c2342, c2439, k2451, k2454, c2835, c3916, c4003] <;> omega) (by simp [c2254, c2257, c2342, c2439, k2451, k2454, c2835, c3916, c4003] <;> omega) ?_
        refine Walk.iter (σ := Int × List Int) (fun g => ⟨[(1, .d (.sl (List.map TItem.D v10))), (2, .box 2 0), (7, .d (.int .i64 (v10.length : Int))), (12, .arr 75 0 v1060.length), (16, .d (.int .i64 v1011)), (17, .d (.int .i64 v1059)), (18, .box 18 0), (19, .d (.int .i64 g.1))], [(2, some (.box [.d (.int .i64 v1), .d (.int .i64 v2), .d (.int .i64 v3), .d (.int .i64 v4), .d (.sl (List.map TRange.D v5)), .d (.sl (List.map TRange.D v6)), .d (.sl (List.map iD v7)), .d (.sl (List.map Form.D v8)), .d (.int .i64 v9)])), (18, some (.box [.arr 1098 0 g.2.length, .d (.int .i64 0), .d (.int .i64 1)])), (75, some (.arr 32 3 (List.map Row.D v1060))), (1098, some (.arr 3 1 (List.map iD g.2)))]⟩) (fun g : Int × List Int => ref08_Rows_l7 v10 v1011 v1059 v1060 g.1 g.2) _ (fun g y4043 hx ih4030 hr4031 => ?_) (0, []) hx
        obtain ⟨v1077, v1078⟩ := g
        unfold ref08_Rows_l7 at hx
        try dsimp only at hx ⊢
        refine Walk.seq (Walk.seq (Walk.region' rfl fun K hK => ?_))
        simp only [go_sem, seval, c2254, c2257, c2342, c2439, k2451, k2454, c2835, c3916, c4003]
        refine hK _ ?_
        clear hK K
        refine Walk.condO rfl hx (fun c4034 hx => ?_) (fun c4034 hx => ?_)
        · refine Walk.skip (Walk.seq (Walk.block (Walk.drawn' rfl mixed fun K hK => ?_)))
          simp only [go_sem, seval, c2254, c2257, c2342, c2439, k2451, k2454, c2835, c3916, c4003, c4034]
          refine VGdO hx (fun g4035 hx => ?_) (fun g4035 hx => ?_)
          · obtain ⟨v1081, h4036, hx⟩ := bind_elim hx
            simp only [go_sem, seval, c2254, c2257, c2342, c2439, k2451, k2454, c2835, c3916, c4003, c4034, g4035]
            refine VCl.pure rfl (by simp only [go_sem, seval, c2254, c2257, c2342, c2439, k2451, k2454, c2835, c3916, c4003, c4034, g4035]; try simp) (ref08_one_ok true _ h4036) (by simp only [go_sem, seval, c2254, c2257, c2342, c2439, k2451, k2454, c2835, c3916, c4003, c4034, g4035]; try simp) (by simp only [go_sem, seval, c2254, c2257, c2342, c2439, k2451, k2454, c2835, c3916, c4003, c4034, g4035]; try simp) (by simp only [go_sem, seval, c2254, c2257, c2342, c2439, k2451, k2454, c2835, c3916, c4003, c4034, g4035]; try simp) (by simp only [go_sem, seval, c2254, c2257, c2342, c2439, k2451, k2454, c2835, c3916, c4003, c4034, g4035]; try simp) (by simp only [go_sem, seval, c2254, c2257, c2342, c2439, k2451, k2454, c2835, c3916, c4003, c4034, g4035]; try simp) (by simp only [go_sem, seval, c2254, c2257, c2342, c2439, k2451, k2454, c2835, c3916, c4003, c4034, g4035]; try simp) ?_
            obtain ⟨k4037, hx⟩ := chk_elim hx
            simp only [go_sem, seval, c2254, c2257, c2342, c2439, k2451, k2454, c2835, c3916, c4003, c4034, g4035, k4037]
            repeat refine And.intro (by first | omega | (simp; done) | (simp; omega)) ?_
            refine hK _ _ (by kernel_rfl) (by simp [c2254, c2257, c2342, c2439, k2451, k2454, c2835, c3916, c4003, c4034, g4035, k4037]) ?_
            clear hK K
            refine Walk.weaken ⟨[(1, .d (.sl (List.map TItem.D v10))), (2, .box 2 0), (7, .d (.int .i64 (v10.length : Int))), (12, .arr 75 0 v1060.length), (16, .d (.int .i64 v1011)), (17, .d (.int .i64 v1059)), (18, .box 18 0), (19, .d (.int .i64 v1077))], [(2, some (.box [.d (.int .i64 v1), .d (.int .i64 v2), .d (.int .i64 v3), .d (.int .i64 v4), .d (.sl (List.map TRange.D v5)), .d (.sl (List.map TRange.D v6)), .d (.sl (List.map iD v7)), .d (.sl (List.map Form.D v8)), .d (.int .i64 v9)])), (18, some (.box [.arr 1098 0 ((v1078 ++ [v1081]).length), .d (.int .i64 0), .d (.int .i64 1)])), (75, some (.arr 32 3 (List.map Row.D v1060))), (1098, some (.arr 3 1 (List.map iD (v1078 ++ [v1081]))))]⟩ (by simp [c2254, c2257, c2342, c2439, k2451, k2454, c2835, c3916, c4003, c4034, g4035, k4037] <;> omega) (by simp [c2254, c2257, c2342, c2439, k2451, k2454, c2835, c3916, c4003, c4034, g4035, k4037] <;> omega) ?_
            refine Walk.inBlock (Walk.region' rfl fun K hK => ?_)
            simp only [go_sem, seval, c2254, c2257, c2342, c2439, k2451, k2454, c2835, c3916, c4003, c4034, g4035, k4037]
            refine hK _ ?_
            clear hK K
            exact Walk.weaken _ (by simp [c2254, c2257, c2342, c2439, k2451, k2454, c2835, c3916, c4003, c4034, g4035, k4037] <;> omega) (by simp [c2254, c2257, c2342, c2439, k2451, k2454, c2835, c3916, c4003, c4034, g4035, k4037] <;> omega) (ih4030 _ (cont_elim hx))
          obtain ⟨v1082, h4038, hx⟩ := bind_elim hx
          simp only [go_sem, seval, c2254, c2257, c2342, c2439, k2451, k2454, c2835, c3916, c4003, c4034, g4035]
          refine VCl.pure rfl (by simp only [go_sem, seval, c2254, c2257, c2342, c2439, k2451, k2454, c2835, c3916, c4003, c4034, g4035]; try simp) (ref08_one_ok (decide (v1077 = v1059)) _ h4038) (by simp only [go_sem, seval, c2254, c2257, c2342, c2439, k2451, k2454, c2835, c3916, c4003, c4034, g4035]; try simp) (by simp only [go_sem, seval, c2254, c2257, c2342, c2439, k2451, k2454, c2835, c3916, c4003, c4034, g4035]; try simp) (by simp only [go_sem, seval, c2254, c2257, c2342, c2439, k2451, k2454, c2835, c3916, c4003, c4034, g4035]; try simp) (by simp only [go_sem, seval, c2254, c2257, c2342, c2439, k2451, k2454, c2835, c3916, c4003, c4034, g4035]; try simp) (by simp only [go_sem, seval, c2254, c2257, c2342, c2439, k2451, k2454, c2835, c3916, c4003, c4034, g4035]; try simp) (by simp only [go_sem, seval, c2254, c2257, c2342, c2439, k2451, k2454, c2835, c3916, c4003, c4034, g4035]; try simp) ?_
          obtain ⟨k4039, hx⟩ := chk_elim hx
          simp only [go_sem, seval, c2254, c2257, c2342, c2439, k2451, k2454, c2835, c3916, c4003, c4034, g4035, k4039]
          repeat refine And.intro (by first | omega | (simp; done) | (simp; omega)) ?_
          refine hK _ _ (by kernel_rfl) (by simp [c2254, c2257, c2342, c2439, k2451, k2454, c2835, c3916, c4003, c4034, g4035, k4039]) ?_
          clear hK K
          refine Walk.weaken ⟨[(1, .d (.sl (List.map TItem.D v10))), (2, .box 2 0), (7, .d (.int .i64 (v10.length : Int))), (12, .arr 75 0 v1060.length), (16, .d (.int .i64 v1011)), (17, .d (.int .i64 v1059)), (18, .box 18 0), (19, .d (.int .i64 v1077))], [(2, some (.box [.d (.int .i64 v1), .d (.int .i64 v2), .d (.int .i64 v3), .d (.int .i64 v4), .d (.sl (List.map TRange.D v5)), .d (.sl (List.map TRange.D v6)), .d (.sl (List.map iD v7)), .d (.sl (List.map Form.D v8)), .d (.int .i64 v9)])), (18, some (.box [.arr 1098 0 ((v1078 ++ [v1082]).length), .d (.int .i64 0), .d (.int .i64 1)])), (75, some (.arr 32 3 (List.map Row.D v1060))), (1098, some (.arr 3 1 (List.map iD (v1078 ++ [v1082]))))]⟩ (by simp [c2254, c2257, c2342, c2439, k2451, k2454, c2835, c3916, c4003, c4034, g4035, k4039] <;> omega) (by simp [c2254, c2257, c2342, c2439, k2451, k2454, c2835, c3916, c4003, c4034, g4035, k4039] <;> omega) ?_
          refine Walk.inBlock (Walk.region' rfl fun K hK => ?_)
          simp only [go_sem, seval, c2254, c2257, c2342, c2439, k2451, k2454, c2835, c3916, c4003, c4034, g4035, k4039]
          refine hK _ ?_
          clear hK K
          exact Walk.weaken _ (by simp [c2254, c2257, c2342, c2439, k2451, k2454, c2835, c3916, c4003, c4034, g4035, k4039] <;> omega) (by simp [c2254, c2257, c2342, c2439, k2451, k2454, c2835, c3916, c4003, c4034, g4035, k4039] <;> omega) (ih4030 _ (cont_elim hx))
        refine Walk.exit rfl ?_
        obtain ⟨z4040, e4041, hx⟩ := exit_elim hx
        rw [hr4031 z4040 e4041] at hx
        refine Walk.region' rfl fun K hK => ?_
        obtain ⟨k4042, hx⟩ := chk_elim hx
        simp only [go_sem, seval, c2254, c2257, c2342, c2439, k2451, k2454, c2835, c3916, c4003, c4034, k4042]
        repeat refine And.intro (by first | omega | (simp; done) | (simp; omega)) ?_
        refine hK _ ?_
        clear hK K
        refine Walk.weaken ⟨[(1, .d (.sl (List.map TItem.D v10))), (2, .box 2 0), (7, .d (.int .i64 (v10.length : Int))), (12, .arr 75 0 (((v1060 ++ [(Row.mk v1078 0 1)])).length)), (16, .d (.int .i64 v1011)), (17, .d (.int .i64 v1059))], [(2, some (.box [.d (.int .i64 v1), .d (.int .i64 v2), .d (.int .i64 v3), .d (.int .i64 v4), .d (.sl (List.map TRange.D v5)), .d (.sl (List.map TRange.D v6)), .d (.sl (List.map iD v7)), .d (.sl (List.map Form.D v8)), .d (.int .i64 v9)])), (75, some (.arr 32 3 (List.map Row.D ((v1060 ++ [(Row.mk v1078 0 1)])))))]⟩ (by simp [c2254, c2257, c2342, c2439, k2451, k2454, c2835, c3916, c4003, c4034, k4042] <;> omega) (by simp [c2254, c2257, c2342, c2439, k2451, k2454, c2835, c3916, c4003, c4034, k4042] <;> omega) ?_
        refine Walk.inBlock (Walk.region' rfl fun K hK => ?_)
        simp only [go_sem, seval, c2254, c2257, c2342, c2439, k2451, k2454, c2835, c3916, c4003, c4034, k4042]
        refine hK _ ?_
        clear hK K
        exact Walk.weaken _ (by simp [c2254, c2257, c2342, c2439, k2451, k2454, c2835, c3916, c4003, c4034, k4042] <;> omega) (by simp [c2254, c2257, c2342, c2439, k2451, k2454, c2835, c3916, c4003, c4034, k4042] <;> omega) (ih3999 _ (cont_elim hx))
      refine Walk.seq (Walk.drawn' rfl mixed fun K hK => ?_)
      obtain ⟨v1083, r4044, a4045, b4046, c4047, hx⟩ := rd_elim hx
      obtain ⟨v1084, r4048, a4049, b4050, c4051, hx⟩ := rd_elim hx
      simp only [go_sem, seval, c2254, c2257, c2342, c2439, k2451, k2454, c2835, c3916, c4003, a4045, b4046, c4047, a4049, b4050, c4051]
      repeat refine And.intro (by first | omega | (simp; done) | (simp; omega)) ?_
      refine VGdO hx (fun g4052 hx => ?_) (fun g4052 hx => ?_)
      · obtain ⟨v1085, h4053, hx⟩ := bind_elim hx
        simp only [go_sem, seval, c2254, c2257, c2342, c2439, k2451, k2454, c2835, c3916, c4003, a4045, b4046, c4047, a4049, b4050, c4051, g4052]
        repeat refine And.intro (by first | omega | (simp; done) | (simp; omega)) ?_
        refine VCl.pure rfl (by simp only [go_sem, seval, c2254, c2257, c2342, c2439, k2451, k2454, c2835, c3916, c4003, a4045, b4046, c4047, a4049, b4050, c4051, g4052]; try simp) (ref06_Enemy_ok v1083.ID v1083.Version v1083.Stem v1083.Parts v1083.Enemies v1084.ID v1084.Version v1084.Stem v1084.Parts v1084.Enemies _ h4053) (by simp only [go_sem, seval, c2254, c2257, c2342, c2439, k2451, k2454, c2835, c3916, c4003, a4045, b4046, c4047, a4049, b4050, c4051, g4052]; try simp) (by simp only [go_sem, seval, c2254, c2257, c2342, c2439, k2451, k2454, c2835, c3916, c4003, a4045, b4046, c4047, a4049, b4050, c4051, g4052]; try simp) (by simp only [go_sem, seval, c2254, c2257, c2342, c2439, k2451, k2454, c2835, c3916, c4003, a4045, b4046, c4047, a4049, b4050, c4051, g4052]; try simp) (by simp only [go_sem, seval, c2254, c2257, c2342, c2439, k2451, k2454, c2835, c3916, c4003, a4045, b4046, c4047, a4049, b4050, c4051, g4052]; try simp) (by simp only [go_sem, seval, c2254, c2257, c2342, c2439, k2451, k2454, c2835, c3916, c4003, a4045, b4046, c4047, a4049, b4050, c4051, g4052]; try simp) (by simp only [go_sem, seval, c2254, c2257, c2342, c2439, k2451, k2454, c2835, c3916, c4003, a4045, b4046, c4047, a4049, b4050, c4051, g4052]; try simp) ?_
        simp only [go_sem, seval, c2254, c2257, c2342, c2439, k2451, k2454, c2835, c3916, c4003, a4045, b4046, c4047, a4049, b4050, c4051, g4052]
        refine hK _ _ (by kernel_rfl) (by simp [c2254, c2257, c2342, c2439, k2451, k2454, c2835, c3916, c4003, a4045, b4046, c4047, a4049, b4050, c4051, g4052]) ?_
        clear hK K
        refine Walk.condO rfl hx (fun c4054 hx => ?_) (fun c4054 hx => ?_)
        · refine Walk.exit rfl (Walk.region' rfl fun K hK => ?_)
          simp only [go_sem, seval, c2254, c2257, c2342, c2439, k2451, k2454, c2835, c3916, c4003, a4045, b4046, c4047, a4049, b4050, c4051, g4052, c4054]
          refine hK _ ?_
          clear hK K
          exact Walk.weaken _ (by simp [c2254, c2257, c2342, c2439, k2451, k2454, c2835, c3916, c4003, a4045, b4046, c4047, a4049, b4050, c4051, g4052, c4054] <;> omega) (by simp [c2254, c2257, c2342, c2439, k2451, k2454, c2835, c3916, c4003, a4045, b4046, c4047, a4049, b4050, c4051, g4052, c4054] <;> omega) (ih3999 _ (cont_elim hx))
        refine Walk.skip ?_
        exact Walk.weaken _ (by simp [c2254, c2257, c2342, c2439, k2451, k2454, c2835, c3916, c4003, a4045, b4046, c4047, a4049, b4050, c4051, g4052, c4054] <;> omega) (by simp [c2254, c2257, c2342, c2439, k2451, k2454, c2835, c3916, c4003, a4045, b4046, c4047, a4049, b4050, c4051, g4052, c4054] <;> omega) (fin4015 () hx)
      simp only [go_sem, seval, c2254, c2257, c2342, c2439, k2451, k2454, c2835, c3916, c4003, a4045, b4046, c4047, a4049, b4050, c4051, g4052]
      refine hK _ _ (by kernel_rfl) (by simp [c2254, c2257, c2342, c2439, k2451, k2454, c2835, c3916, c4003, a4045, b4046, c4047, a4049, b4050, c4051, g4052]) ?_
      clear hK K
      refine Walk.condF rfl (Walk.skip ?_)
      exact Walk.weaken _ (by simp [c2254, c2257, c2342, c2439, k2451, k2454, c2835, c3916, c4003, a4045, b4046, c4047, a4049, b4050, c4051, g4052] <;> omega) (by simp [c2254, c2257, c2342, c2439, k2451, k2454, c2835, c3916, c4003, a4045, b4046, c4047, a4049, b4050, c4051, g4052] <;> omega) (fin4015 () hx)
    refine Walk.exit rfl ?_
    obtain ⟨z4055, e4056, hx⟩ := exit_elim hx
    rw [hr4000 z4055 e4056] at hx
    refine Walk.inBlock (Walk.region' rfl fun K hK => ?_)
    simp only [go_sem, seval, c2254, c2257, c2342, c2439, k2451, k2454, c2835, c3916, c4003]
    refine hK _ ?_
    clear hK K
    exact Walk.weaken _ (by simp [c2254, c2257, c2342, c2439, k2451, k2454, c2835, c3916, c4003] <;> omega) (by simp [c2254, c2257, c2342, c2439, k2451, k2454, c2835, c3916, c4003] <;> omega) (ih3912 _ (cont_elim hx))
  refine Walk.exit rfl ?_
  obtain ⟨z4058, e4059, hx⟩ := exit_elim hx
  rw [hr3913 z4058 e4059] at hx
  refine Walk.seq (Walk.seq (Walk.region' rfl fun K hK => ?_))
  simp only [go_sem, seval, c2254, c2257, c2342, c2439, k2451, k2454, c2835, c3916]
  refine hK _ ?_
  clear hK K
  refine Walk.block (Walk.loop ?_)
  refine Walk.weaken ⟨[(1, .d (.sl (List.map TItem.D v10))), (2, .box 2 0), (7, .d (.int .i64 (v10.length : Int))), (12, .arr 75 0 v1012.length), (20, .d (.int .i64 0))], [(2, some (.box [.d (.int .i64 v1), .d (.int .i64 v2), .d (.int .i64 v3), .d (.int .i64 v4), .d (.sl (List.map TRange.D v5)), .d (.sl (List.map TRange.D v6)), .d (.sl (List.map iD v7)), .d (.sl (List.map Form.D v8)), .d (.int .i64 v9)])), (75, some (.arr 32 3 (List.map Row.D v1012)))]⟩ (by simp [c2254, c2257, c2342, c2439, k2451, k2454, c2835, c3916] <;> omega) (by simp [c2254, c2257, c2342, c2439, k2451, k2454, c2835, c3916] <;> omega) ?_
  refine Walk.iter (σ := Int × List Row) (fun g => ⟨[(1, .d (.sl (List.map TItem.D v10))), (2, .box 2 0), (7, .d (.int .i64 (v10.length : Int))), (12, .arr 75 0 g.2.length), (20, .d (.int .i64 g.1))], [(2, some (.box [.d (.int .i64 v1), .d (.int .i64 v2), .d (.int .i64 v3), .d (.int .i64 v4), .d (.sl (List.map TRange.D v5)), .d (.sl (List.map TRange.D v6)), .d (.sl (List.map iD v7)), .d (.sl (List.map Form.D v8)), .d (.int .i64 v9)])), (75, some (.arr 32 3 (List.map Row.D g.2)))]⟩) (fun g : Int × List Row => ref08_Rows_l8 v8 v10 v9 g.1 g.2) _ (fun g y4515 hx ih4460 hr4461 => ?_) (0, v1012) hx
  obtain ⟨v1188, v1189⟩ := g
  unfold ref08_Rows_l8 at hx
  try dsimp only at hx ⊢
  refine Walk.seq (Walk.seq (Walk.region' rfl fun K hK => ?_))
  simp only [go_sem, seval, c2254, c2257, c2342, c2439, k2451, k2454, c2835, c3916]
  refine hK _ ?_
  clear hK K
  refine Walk.condO rfl hx (fun c4464 hx => ?_) (fun c4464 hx => ?_)
  · refine Walk.skip (Walk.seq (Walk.block (Walk.seq (Walk.region' rfl fun K hK => ?_))))
    simp only [go_sem, seval, c2254, c2257, c2342, c2439, k2451, k2454, c2835, c3916, c4464]
    refine hK _ ?_
    clear hK K
    refine Walk.seq (Walk.seq (Walk.region' rfl fun K hK => ?_))
    simp only [go_sem, seval, c2254, c2257, c2342, c2439, k2451, k2454, c2835, c3916, c4464]
    refine hK _ ?_
    clear hK K
    refine Walk.block (Walk.loop ?_)
    refine Walk.weaken ⟨[(1, .d (.sl (List.map TItem.D v10))), (2, .box 2 0), (7, .d (.int .i64 (v10.length : Int))), (12, .arr 75 0 v1189.length), (20, .d (.int .i64 v1188)), (21, .box 21 0), (22, .d (.int .i64 0))], [(2, some (.box [.d (.int .i64 v1), .d (.int .i64 v2), .d (.int .i64 v3), .d (.int .i64 v4), .d (.sl (List.map TRange.D v5)), .d (.sl (List.map TRange.D v6)), .d (.sl (List.map iD v7)), .d (.sl (List.map Form.D v8)), .d (.int .i64 v9)])), (21, some (.box [.nils, .d (.int .i64 0), .d (.int .i64 v9)])), (75, some (.arr 32 3 (List.map Row.D v1189)))]⟩ (by simp [c2254, c2257, c2342, c2439, k2451, k2454, c2835, c3916, c4464] <;> omega) (by simp [c2254, c2257, c2342, c2439, k2451, k2454, c2835, c3916, c4464] <;> omega) ?_
    refine Walk.up 1107 3 1 [(1, .d (.sl (List.map TItem.D v10))), (2, .box 2 0), (7, .d (.int .i64 (v10.length : Int))), (12, .arr 75 0 v1189.length), (20, .d (.int .i64 v1188)), (21, .box 21 0), (22, .d (.int .i64 0))] [(2, some (.box [.d (.int .i64 v1), .d (.int .i64 v2), .d (.int .i64 v3), .d (.int .i64 v4), .d (.sl (List.map TRange.D v5)), .d (.sl (List.map TRange.D v6)), .d (.sl (List.map iD v7)), .d (.sl (List.map Form.D v8)), .d (.int .i64 v9)])), (21, some (.box [.arr 1107 0 0, .d (.int .i64 0), .d (.int .i64 v9)])), (75, some (.arr 32 3 (List.map Row.D v1189)))] (by simp) (by simp) (by omega) (by simp) (by simp) (by simp) ?_
    refine Walk.weaken ⟨[(1, .d (.sl (List.map TItem.D v10))), (2, .box 2 0), (7, .d (.int .i64 (v10.length : Int))), (12, .arr 75 0 v1189.length), (20, .d (.int .i64 v1188)), (21, .box 21 0), (22, .d (.int .i64 0))], [(2, some (.box [.d (.int .i64 v1), .d (.int .i64 v2), .d (.int .i64 v3), .d (.int .i64 v4), .d (.sl (List.map TRange.D v5)), .d (.sl (List.map TRange.D v6)), .d (.sl (List.map iD v7)), .d (.sl (List.map Form.D v8)), .d (.int .i64 v9)])), (21, some (.box [.arr 1107 0 0, .d (.int .i64 0), .d (.int .i64 v9)])), (75, some (.arr 32 3 (List.map Row.D v1189))), (1107, some (.arr 3 1 (List.map iD [])))]⟩ (by simp [c2254, c2257, c2342, c2439, k2451, k2454, c2835, c3916, c4464] <;> omega) (by simp [c2254, c2257, c2342, c2439, k2451, k2454, c2835, c3916, c4464] <;> omega) ?_
    refine Walk.iter (σ := Int × List Int) (fun g => ⟨[(1, .d (.sl (List.map TItem.D v10))), (2, .box 2 0), (7, .d (.int .i64 (v10.length : Int))), (12, .arr 75 0 v1189.length), (20, .d (.int .i64 v1188)), (21, .box 21 0), (22, .d (.int .i64 g.1))], [(2, some (.box [.d (.int .i64 v1), .d (.int .i64 v2), .d (.int .i64 v3), .d (.int .i64 v4), .d (.sl (List.map TRange.D v5)), .d (.sl (List.map TRange.D v6)), .d (.sl (List.map iD v7)), .d (.sl (List.map Form.D v8)), .d (.int .i64 v9)])), (21, some (.box [.arr 1107 0 g.2.length, .d (.int .i64 0), .d (.int .i64 v9)])), (75, some (.arr 32 3 (List.map Row.D v1189))), (1107, some (.arr 3 1 (List.map iD g.2)))]⟩) (fun g : Int × List Int => ref08_Rows_l9 v10 v8 v1188 v1189 v9 g.1 g.2) _ (fun g y4511 hx ih4492 hr4493 => ?_) (0, []) hx
    obtain ⟨v1208, v1209⟩ := g
    unfold ref08_Rows_l9 at hx
    try dsimp only at hx ⊢
    refine Walk.seq (Walk.seq (Walk.region' rfl fun K hK => ?_))
    simp only [go_sem, seval, c2254, c2257, c2342, c2439, k2451, k2454, c2835, c3916, c4464]
    refine hK _ ?_
    clear hK K
    refine Walk.condO rfl hx (fun c4496 hx => ?_) (fun c4496 hx => ?_)
    · refine Walk.skip (Walk.seq (Walk.block (Walk.drawn' rfl mixed fun K hK => ?_)))
      obtain ⟨v1214, r4497, a4498, b4499, c4500, hx⟩ := rd_elim hx
      obtain ⟨v1215, r4501, a4502, b4503, c4504, hx⟩ := rd_elim hx
      obtain ⟨v1216, h4505, hx⟩ := bind_elim hx
      simp only [go_sem, seval, c2254, c2257, c2342, c2439, k2451, k2454, c2835, c3916, c4464, c4496, a4498, b4499, c4500, a4502, b4503, c4504]
      repeat refine And.intro (by first | omega | (simp; done) | (simp; omega)) ?_
      refine VCl.pure rfl (by simp only [go_sem, seval, c2254, c2257, c2342, c2439, k2451, k2454, c2835, c3916, c4464, c4496, a4498, b4499, c4500, a4502, b4503, c4504]; try simp) (ref08_uses_ok v1214.Code v1214.Items v1215.ID v1215.Version v1215.Stem v1215.Parts v1215.Enemies _ h4505) (by simp only [go_sem, seval, c2254, c2257, c2342, c2439, k2451, k2454, c2835, c3916, c4464, c4496, a4498, b4499, c4500, a4502, b4503, c4504]; try simp) (by simp only [go_sem, seval, c2254, c2257, c2342, c2439, k2451, k2454, c2835, c3916, c4464, c4496, a4498, b4499, c4500, a4502, b4503, c4504]; try simp) (by simp only [go_sem, seval, c2254, c2257, c2342, c2439, k2451, k2454, c2835, c3916, c4464, c4496, a4498, b4499, c4500, a4502, b4503, c4504]; try simp) (by simp only [go_sem, seval, c2254, c2257, c2342, c2439, k2451, k2454, c2835, c3916, c4464, c4496, a4498, b4499, c4500, a4502, b4503, c4504]; try simp) (by simp only [go_sem, seval, c2254, c2257, c2342, c2439, k2451, k2454, c2835, c3916, c4464, c4496, a4498, b4499, c4500, a4502, b4503, c4504]; try simp) (by simp only [go_sem, seval, c2254, c2257, c2342, c2439, k2451, k2454, c2835, c3916, c4464, c4496, a4498, b4499, c4500, a4502, b4503, c4504]; try simp) ?_
      obtain ⟨v1217, h4506, hx⟩ := bind_elim hx
      simp only [go_sem, seval, c2254, c2257, c2342, c2439, k2451, k2454, c2835, c3916, c4464, c4496, a4498, b4499, c4500, a4502, b4503, c4504]
      refine VCl.pure rfl (by simp only [go_sem, seval, c2254, c2257, c2342, c2439, k2451, k2454, c2835, c3916, c4464, c4496, a4498, b4499, c4500, a4502, b4503, c4504]; try simp) (ref08_one_ok v1216 _ h4506) (by simp only [go_sem, seval, c2254, c2257, c2342, c2439, k2451, k2454, c2835, c3916, c4464, c4496, a4498, b4499, c4500, a4502, b4503, c4504]; try simp) (by simp only [go_sem, seval, c2254, c2257, c2342, c2439, k2451, k2454, c2835, c3916, c4464, c4496, a4498, b4499, c4500, a4502, b4503, c4504]; try simp) (by simp only [go_sem, seval, c2254, c2257, c2342, c2439, k2451, k2454, c2835, c3916, c4464, c4496, a4498, b4499, c4500, a4502, b4503, c4504]; try simp) (by simp only [go_sem, seval, c2254, c2257, c2342, c2439, k2451, k2454, c2835, c3916, c4464, c4496, a4498, b4499, c4500, a4502, b4503, c4504]; try simp) (by simp only [go_sem, seval, c2254, c2257, c2342, c2439, k2451, k2454, c2835, c3916, c4464, c4496, a4498, b4499, c4500, a4502, b4503, c4504]; try simp) (by simp only [go_sem, seval, c2254, c2257, c2342, c2439, k2451, k2454, c2835, c3916, c4464, c4496, a4498, b4499, c4500, a4502, b4503, c4504]; try simp) ?_
      obtain ⟨k4507, hx⟩ := chk_elim hx
      simp only [go_sem, seval, c2254, c2257, c2342, c2439, k2451, k2454, c2835, c3916, c4464, c4496, a4498, b4499, c4500, a4502, b4503, c4504, k4507]
      repeat refine And.intro (by first | omega | (simp; done) | (simp; omega)) ?_
      refine hK _ _ (by kernel_rfl) (by simp [c2254, c2257, c2342, c2439, k2451, k2454, c2835, c3916, c4464, c4496, a4498, b4499, c4500, a4502, b4503, c4504, k4507]) ?_
      clear hK K
      refine Walk.weaken ⟨[(1, .d (.sl (List.map TItem.D v10))), (2, .box 2 0), (7, .d (.int .i64 (v10.length : Int))), (12, .arr 75 0 v1189.length), (20, .d (.int .i64 v1188)), (21, .box 21 0), (22, .d (.int .i64 v1208))], [(2, some (.box [.d (.int .i64 v1), .d (.int .i64 v2), .d (.int .i64 v3), .d (.int .i64 v4), .d (.sl (List.map TRange.D v5)), .d (.sl (List.map TRange.D v6)), .d (.sl (List.map iD v7)), .d (.sl (List.map Form.D v8)), .d (.int .i64 v9)])), (21, some (.box [.arr 1107 0 ((v1209 ++ [v1217]).length), .d (.int .i64 0), .d (.int .i64 v9)])), (75, some (.arr 32 3 (List.map Row.D v1189))), (1107, some (.arr 3 1 (List.map iD (v1209 ++ [v1217]))))]⟩ (by simp [c2254, c2257, c2342, c2439, k2451, k2454, c2835, c3916, c4464, c4496, a4498, b4499, c4500, a4502, b4503, c4504, k4507] <;> omega) (by simp [c2254, c2257, c2342, c2439, k2451, k2454, c2835, c3916, c4464, c4496, a4498, b4499, c4500, a4502, b4503, c4504, k4507] <;> omega) ?_
      refine Walk.inBlock (Walk.region' rfl fun K hK => ?_)
      simp only [go_sem, seval, c2254, c2257, c2342, c2439, k2451, k2454, c2835, c3916, c4464, c4496, a4498, b4499, c4500, a4502, b4503, c4504, k4507]
      refine hK _ ?_
      clear hK K
      exact Walk.weaken _ (by simp [c2254, c2257, c2342, c2439, k2451, k2454, c2835, c3916, c4464, c4496, a4498, b4499, c4500, a4502, b4503, c4504, k4507] <;> omega) (by simp [c2254, c2257, c2342, c2439, k2451, k2454, c2835, c3916, c4464, c4496, a4498, b4499, c4500, a4502, b4503, c4504, k4507] <;> omega) (ih4492 _ (cont_elim hx))
    refine Walk.exit rfl ?_
    obtain ⟨z4508, e4509, hx⟩ := exit_elim hx
    rw [hr4493 z4508 e4509] at hx
    refine Walk.region' rfl fun K hK => ?_
    obtain ⟨k4510, hx⟩ := chk_elim hx
    simp only [go_sem, seval, c2254, c2257, c2342, c2439, k2451, k2454, c2835, c3916, c4464, c4496, k4510]
    repeat refine And.intro (by first | omega | (simp; done) | (simp; omega)) ?_
    refine hK _ ?_
    clear hK K
    refine Walk.weaken ⟨[(1, .d (.sl (List.map TItem.D v10))), (2, .box 2 0), (7, .d (.int .i64 (v10.length : Int))), (12, .arr 75 0 (((v1189 ++ [(Row.mk v1209 0 v9)])).length)), (20, .d (.int .i64 v1188))], [(2, some (.box [.d (.int .i64 v1), .d (.int .i64 v2), .d (.int .i64 v3), .d (.int .i64 v4), .d (.sl (List.map TRange.D v5)), .d (.sl (List.map TRange.D v6)), .d (.sl (List.map iD v7)), .d (.sl (List.map Form.D v8)), .d (.int .i64 v9)])), (75, some (.arr 32 3 (List.map Row.D ((v1189 ++ [(Row.mk v1209 0 v9)])))))]⟩ (by simp [c2254, c2257, c2342, c2439, k2451, k2454, c2835, c3916, c4464, c4496, k4510] <;> omega) (by simp [c2254, c2257, c2342, c2439, k2451, k2454, c2835, c3916, c4464, c4496, k4510] <;> omega) ?_
    refine Walk.inBlock (Walk.region' rfl fun K hK => ?_)
    simp only [go_sem, seval, c2254, c2257, c2342, c2439, k2451, k2454, c2835, c3916, c4464, c4496, k4510]
    refine hK _ ?_
    clear hK K
    exact Walk.weaken _ (by simp [c2254, c2257, c2342, c2439, k2451, k2454, c2835, c3916, c4464, c4496, k4510] <;> omega) (by simp [c2254, c2257, c2342, c2439, k2451, k2454, c2835, c3916, c4464, c4496, k4510] <;> omega) (ih4460 _ (cont_elim hx))
  refine Walk.exit rfl ?_
  obtain ⟨z4512, e4513, hx⟩ := exit_elim hx
  rw [hr4461 z4512 e4513] at hx
  refine Walk.seq (Walk.seq (Walk.region' rfl fun K hK => ?_))
  simp only [go_sem, seval, c2254, c2257, c2342, c2439, k2451, k2454, c2835, c3916, c4464]
  refine hK _ ?_
  clear hK K
  refine Walk.condO rfl hx (fun c4514 hx => ?_) (fun c4514 hx => ?_)
  · refine Walk.seq (Walk.region' rfl fun K hK => ?_)
    simp only [go_sem, seval, c2254, c2257, c2342, c2439, k2451, k2454, c2835, c3916, c4464, c4514]
    refine hK _ ?_
    clear hK K
    refine Walk.weaken ⟨[(4, .nils), (5, .d (.int .i64 3))], []⟩ (by simp [c2254, c2257, c2342, c2439, k2451, k2454, c2835, c3916, c4464, c4514] <;> omega) (by simp [c2254, c2257, c2342, c2439, k2451, k2454, c2835, c3916, c4464, c4514] <;> omega) ?_
    refine Walk.up 2000 32 3 [(4, .arr 2000 0 0), (5, .d (.int .i64 3))] [] (by simp) (by simp) (by omega) (by simp) (by simp) (by simp) ?_
    obtain rfl := Option.some.inj hx
    exact Walk.ret ⟨by simp [c2254, c2257, c2342, c2439, k2451, k2454, c2835, c3916, c4464, c4514], by simp [c2254, c2257, c2342, c2439, k2451, k2454, c2835, c3916, c4464, c4514]⟩
  refine Walk.skip (Walk.seq (Walk.region' rfl fun K hK => ?_))
  simp only [go_sem, seval, c2254, c2257, c2342, c2439, k2451, k2454, c2835, c3916, c4464, c4514]
  refine hK _ ?_
  clear hK K
  refine Walk.weaken ⟨[(4, .arr 75 0 v1189.length), (5, .d (.int .i64 0))], [(75, some (.arr 32 3 (List.map Row.D v1189)))]⟩ (by simp [c2254, c2257, c2342, c2439, k2451, k2454, c2835, c3916, c4464, c4514] <;> omega) (by simp [c2254, c2257, c2342, c2439, k2451, k2454, c2835, c3916, c4464, c4514] <;> omega) ?_
  refine Walk.rename 75 2000 (by omega) (by omega) (by simp) (by simp) ?_
  simp only [renE, renL, AV.ren, AV.rens, AObj.ren, swp, Option.map_some, reduceIte, Nat.reduceEqDiff]
  obtain rfl := Option.some.inj hx
  exact Walk.ret ⟨by simp [c2254, c2257, c2342, c2439, k2451, k2454, c2835, c3916, c4464, c4514], by simp [c2254, c2257, c2342, c2439, k2451, k2454, c2835, c3916, c4464, c4514]⟩
end Go.AX

