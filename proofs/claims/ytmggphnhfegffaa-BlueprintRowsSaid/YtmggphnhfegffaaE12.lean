import Derived.Test.YtmggphnhfegffaaE11
set_option linter.unusedVariables false
set_option linter.unusedSimpArgs false
set_option maxRecDepth 20000
set_option maxHeartbeats 4000000
namespace Go.AX
open Go.Proofs
attribute [local simp] take_map_len subE subH eget hget upE upV upH upO_refl upO_box upVs freshE freshH freshO AV.ids AV.idsL ids_box ids_arr frE frV_refl frV_arr frH frO_refl frO_box frVs newOk evalA AV.viewXs AV.viewX AV.viewXP AV.viewXPs AV.viewPs AV.viewP AV.flat AV.flatL D.flat arrsOnly flatObjs newNames subOf closedIn allSome dstOk newOrOld avD avDp zv_i64 zv_u8 zv_bool zv_nils zv_nilp zv_str retAV aLoad cut TI.isAgg nlE nlH nlO_refl nlO_box nlVs nlV_refl nlV_nil iD uD bD tD lD List.map_set ti2 ti3 ti4 ti5 ti6 ti7 ti8 ti9 ti10 ti11 ti12 ti13 ti14 ti15 ti16 ti17 ti18 ti19 ti21 ti22 ti23 ti25 ti26 ti27 ti31 ti32 ti41 ti51 ti52 ti53 ti54 ti56 ti58 ti60 ti61 ti62 ti67 ti68 ti71 ti72 ti79 ti80 ti81 ti82 ti83 ti84 ti85 ti89 ti93 ti94 ti95 ti110 ti124 ti125 ti126 ti127 ti128 ti129 ti130 ti131 ti133 ti134 ti135 ti136 ti137 Row.D TRange.D Ref.D Form.D Part.D TItem.D
attribute [local go_sem] V1_none V1_some V_nil V_move V_assign V_pick V_bin V_un V_extract V_makeFunc V_convert V_nilCheck V_fieldAddr V_field V_load V_store V_indexAddr V_index V_slice V_slice0 V_alloc V_box V_build V_buildSlice V_makeSlice V_len V_min V_max V_append V_call V_guard VGs_some VG_tt VG_ff VG_tf VG_ft VG_u gslot ok fail po so aNew dstOk freshU addLog_none' addLog_some' St.step putL evalA eget hget argE freshE freshO freshH AV.ids AV.idsL AV.ok1 AV.cells ids_box ids_arr liveBox liveArr isArr aPick aBin aUn aExtract aMakeFunc aConvert aNilCheck aFieldAddr aField cut aLen aIndexAddr aMin aMax aIndex bnd isInt aSlice aSlice0 aLoad aAlloc aBox aStore splice aMake updIds newIds zv_i64 zv_u8 zv_bool zv_nils zv_nilp cond_bool cond_int TI.isAgg TK.isSl TK.el okL avDps avDp avD List.map_cons List.map_nil List.append_nil List.nil_append List.cons_append List.length_cons List.length_nil List.take_succ_cons List.take_zero List.drop_succ_cons List.drop_zero List.take_nil List.drop_nil List.headD_cons List.getD_cons_zero List.getD_cons_succ List.mem_cons List.not_mem_nil List.getElem?_cons_zero List.getElem?_cons_succ List.toList_toArray Option.getD_some Option.getD_none Option.bind_some Option.bind_none Option.map_some Option.map_none Option.getD Option.toList Nat.zero_add Nat.add_zero Nat.zero_le Nat.le_refl if_true if_false ite_self true_and and_true false_and and_false true_or or_true false_or or_false not_true_eq_false not_false_eq_true ne_eq cond_true cond_false Bool.true_eq_false Bool.false_eq_true forall_const decide_true decide_false implies_true true_implies and_self or_self Nat.succ_ne_zero Int.toNat_natCast Int.natCast_nonneg List.length_map decide_eq_true_eq AV.views AV.view AV.viewPs AV.viewP arrsOnly newNames List.length_append List.append_assoc Bool.not_true Bool.not_false AV.ok2 aBuild fillR fillP aBuildSlice dense elP aAppend esOf esOfP List.forall_mem_cons forall_eq_or_imp forall_eq zD zDp map_take' map_drop' iD uD bD tD lD iD_len uD_len bD_len tD_len lD_len LB Int.cast_ofNat_Int Int.natCast_zero Int.natCast_one head_len all_len List.head?_cons List.head?_nil Bool.not_not eq_self List.take_length zv_str aConv byteOf isByte map_bcell bytes_all str_map cellsEq cellsP AV.kd Bool.and_true Bool.true_and Bool.and_false Bool.false_and ti2 ti3 ti4 ti5 ti6 ti7 ti8 ti9 ti10 ti11 ti12 ti13 ti14 ti15 ti16 ti17 ti18 ti19 ti21 ti22 ti23 ti25 ti26 ti27 ti31 ti32 ti41 ti51 ti52 ti53 ti54 ti56 ti58 ti60 ti61 ti62 ti67 ti68 ti71 ti72 ti79 ti80 ti81 ti82 ti83 ti84 ti85 ti89 ti93 ti94 ti95 ti110 ti124 ti125 ti126 ti127 ti128 ti129 ti130 ti131 ti133 ti134 ti135 ti136 ti137 Row.D TRange.D Ref.D Form.D Part.D TItem.D Row.D_len TRange.D_len Ref.D_len Form.D_len Part.D_len TItem.D_len zs_ zs_48_49_50_51_52_53_54_55_56_57_48_49_50_51_52_53_54_55_56_57_48_49_50_51_52_53_54_55_56_57_48_49_50_51_52_53_54_55_56_57_120 zs_113 zs_116_97_98_9 eqf85_00
noncomputable def ref06_Ints_l0 (v1 : List Int) (v2 : List Int) (v13 : Int) : Option ((Int) ⊕ (Bool)) :=
  bif decide (v13 < (v1.length : Int)) then ((rd v1 v13).bind fun v16 => (rd v2 v13).bind fun v17 => bif decide (¬ v16 = v17) then (exitO (some (false : Bool))) else (contO (IntKind.i64.wrap (v13 + 1) : Int))) else (exitO (some (true : Bool)))
noncomputable def ref06_Ints (v1 : List Int) (v2 : List Int) : Option (Bool) :=
  bif decide (¬ (v1.length : Int) = (v2.length : Int)) then (some (false : Bool)) else (iter (fun g : Int => ref06_Ints_l0 v1 v2 g) 0)
theorem ref06_Ints_ok (v1 : List Int) (v2 : List Int) (r : Bool) (hx : ref06_Ints v1 v2 = some r) :
    ACalls Try.prog 86 [.d (.sl (List.map iD v1)), .d (.sl (List.map iD v2))] [] (.d (.bool r)) [] := by
  refine ACalls.of_sem (n := 26) 0 [4] (fn := Try.f86) Try.func86 rfl rfl (.one rfl) rfl (by simp) (by intro i; simp only [hget]; (repeat' split) <;> simp <;> omega) ?_
  unfold ref06_Ints at hx
  refine Walk.seq (Walk.region' rfl fun K hK => ?_)
  simp only [go_sem, seval]
  refine hK _ ?_
  clear hK K
  refine Walk.seq (Walk.seq (Walk.region' rfl fun K hK => ?_))
  simp only [go_sem, seval]
  refine hK _ ?_
  clear hK K
  refine Walk.condO rfl hx (fun c46 hx => ?_) (fun c46 hx => ?_)
  · refine Walk.seq (Walk.region' rfl fun K hK => ?_)
    simp only [go_sem, seval, c46]
    refine hK _ ?_
    clear hK K
    obtain rfl := Option.some.inj hx
    exact Walk.ret ⟨by simp [c46], by simp [c46]⟩
  refine Walk.skip (Walk.seq (Walk.seq (Walk.region' rfl fun K hK => ?_)))
  simp only [go_sem, seval, c46]
  refine hK _ ?_
  clear hK K
  refine Walk.block (Walk.loop ?_)
  refine Walk.weaken ⟨[(0, .d (.sl (List.map iD v1))), (1, .d (.sl (List.map iD v2))), (5, .d (.int .i64 0))], []⟩ (by simp [c46] <;> omega) (by simp [c46] <;> omega) ?_
  refine Walk.iter (σ := Int) (fun g => ⟨[(0, .d (.sl (List.map iD v1))), (1, .d (.sl (List.map iD v2))), (5, .d (.int .i64 g))], []⟩) (fun g : Int => ref06_Ints_l0 v1 v2 g) _ (fun v13 y89 hx ih71 hr72 => ?_) 0 hx
  unfold ref06_Ints_l0 at hx
  try dsimp only at hx ⊢
  refine Walk.seq (Walk.seq (Walk.region' rfl fun K hK => ?_))
  simp only [go_sem, seval, c46]
  refine hK _ ?_
  clear hK K
  refine Walk.condO rfl hx (fun c75 hx => ?_) (fun c75 hx => ?_)
  · refine Walk.skip (Walk.seq (Walk.block (Walk.seq (Walk.drawn' rfl mixed fun K hK => ?_))))
    obtain ⟨v16, r76, a77, b78, c79, hx⟩ := rd_elim hx
    obtain ⟨v17, r80, a81, b82, c83, hx⟩ := rd_elim hx
    simp only [go_sem, seval, c46, c75, a77, b78, c79, a81, b82, c83]
    repeat refine And.intro (by first | omega | (simp; done) | (simp; omega)) ?_
    refine hK _ _ (by kernel_rfl) (by simp [c46, c75, a77, b78, c79, a81, b82, c83]) ?_
    clear hK K
    refine Walk.condO rfl hx (fun c84 hx => ?_) (fun c84 hx => ?_)
    · refine Walk.seq (Walk.region' rfl fun K hK => ?_)
      simp only [go_sem, seval, c46, c75, a77, b78, c79, a81, b82, c83, c84]
      refine hK _ ?_
      clear hK K
      obtain ⟨z85, e86, hx⟩ := exit_elim hx
      rw [hr72 z85 e86] at hx
      obtain rfl := Option.some.inj hx
      exact Walk.ret ⟨by simp [c46, c75, a77, b78, c79, a81, b82, c83, c84], by simp [c46, c75, a77, b78, c79, a81, b82, c83, c84]⟩
    refine Walk.skip (Walk.inBlock (Walk.region' rfl fun K hK => ?_))
    simp only [go_sem, seval, c46, c75, a77, b78, c79, a81, b82, c83, c84]
    refine hK _ ?_
    clear hK K
    exact Walk.weaken _ (by simp [c46, c75, a77, b78, c79, a81, b82, c83, c84] <;> omega) (by simp [c46, c75, a77, b78, c79, a81, b82, c83, c84] <;> omega) (ih71 _ (cont_elim hx))
  refine Walk.exit rfl ?_
  obtain ⟨z87, e88, hx⟩ := exit_elim hx
  rw [hr72 z87 e88] at hx
  refine Walk.seq (Walk.region' rfl fun K hK => ?_)
  simp only [go_sem, seval, c46, c75]
  refine hK _ ?_
  clear hK K
  obtain rfl := Option.some.inj hx
  exact Walk.ret ⟨by simp [c46, c75], by simp [c46, c75]⟩
noncomputable def law08_sameRows_l0 (v1 : List Row) (v2 : List Row) (v17 : Int) : Option ((Int) ⊕ (Bool)) :=
  bif decide (v17 < (v1.length : Int)) then ((rd v1 v17).bind fun v21 => (rd v2 v17).bind fun v22 => bif decide (¬ v21.Least = v22.Least) then (exitO (some (false : Bool))) else (bif decide (¬ v21.Most = v22.Most) then (exitO (some (false : Bool))) else ((ref06_Ints v21.Coefs v22.Coefs).bind fun v23 => bif !v23 then (exitO (some (false : Bool))) else (contO (IntKind.i64.wrap (v17 + 1) : Int))))) else (exitO (some (true : Bool)))
noncomputable def law08_sameRows (v1 : List Row) (v2 : List Row) : Option (Bool) :=
  bif decide (¬ (v1.length : Int) = (v2.length : Int)) then (some (false : Bool)) else (iter (fun g : Int => law08_sameRows_l0 v1 v2 g) 0)
theorem law08_sameRows_ok (v1 : List Row) (v2 : List Row) (r : Bool) (hx : law08_sameRows v1 v2 = some r) :
    ACalls Try.prog 42 [.d (.sl (List.map Row.D v1)), .d (.sl (List.map Row.D v2))] [] (.d (.bool r)) [] := by
  refine ACalls.of_sem (n := 55) 0 [4] (fn := Try.f42) Try.func42 rfl rfl (.one rfl) rfl (by simp) (by intro i; simp only [hget]; (repeat' split) <;> simp <;> omega) ?_
  unfold law08_sameRows at hx
  refine Walk.seq (Walk.region' rfl fun K hK => ?_)
  simp only [go_sem, seval]
  refine hK _ ?_
  clear hK K
  refine Walk.seq (Walk.seq (Walk.region' rfl fun K hK => ?_))
  simp only [go_sem, seval]
  refine hK _ ?_
  clear hK K
  refine Walk.condO rfl hx (fun c55 hx => ?_) (fun c55 hx => ?_)
  · refine Walk.seq (Walk.region' rfl fun K hK => ?_)
    simp only [go_sem, seval, c55]
    refine hK _ ?_
    clear hK K
    obtain rfl := Option.some.inj hx
    exact Walk.ret ⟨by simp [c55], by simp [c55]⟩
  refine Walk.skip (Walk.seq (Walk.seq (Walk.region' rfl fun K hK => ?_)))
  simp only [go_sem, seval, c55]
  refine hK _ ?_
  clear hK K
  refine Walk.block (Walk.loop ?_)
  refine Walk.weaken ⟨[(0, .d (.sl (List.map Row.D v1))), (1, .d (.sl (List.map Row.D v2))), (5, .d (.int .i64 0))], []⟩ (by simp [c55] <;> omega) (by simp [c55] <;> omega) ?_
  refine Walk.iter (σ := Int) (fun g => ⟨[(0, .d (.sl (List.map Row.D v1))), (1, .d (.sl (List.map Row.D v2))), (5, .d (.int .i64 g))], []⟩) (fun g : Int => law08_sameRows_l0 v1 v2 g) _ (fun v17 y111 hx ih86 hr87 => ?_) 0 hx
  unfold law08_sameRows_l0 at hx
  try dsimp only at hx ⊢
  refine Walk.seq (Walk.seq (Walk.region' rfl fun K hK => ?_))
  simp only [go_sem, seval, c55]
  refine hK _ ?_
  clear hK K
  refine Walk.condO rfl hx (fun c90 hx => ?_) (fun c90 hx => ?_)
  · refine Walk.skip (Walk.seq (Walk.block (Walk.seq (Walk.drawn' rfl mixed fun K hK => ?_))))
    obtain ⟨v21, r91, a92, b93, c94, hx⟩ := rd_elim hx
    obtain ⟨v22, r95, a96, b97, c98, hx⟩ := rd_elim hx
    simp only [go_sem, seval, c55, c90, a92, b93, c94, a96, b97, c98]
    repeat refine And.intro (by first | omega | (simp; done) | (simp; omega)) ?_
    refine VGdO hx (fun g99 hx => ?_) (fun g99 hx => ?_)
    · simp only [go_sem, seval, c55, c90, a92, b93, c94, a96, b97, c98, g99]
      refine hK _ _ (by kernel_rfl) (by simp [c55, c90, a92, b93, c94, a96, b97, c98, g99]) ?_
      clear hK K
      refine Walk.condT rfl (Walk.seq (Walk.region' rfl fun K hK => ?_))
      simp only [go_sem, seval, c55, c90, a92, b93, c94, a96, b97, c98, g99]
      refine hK _ ?_
      clear hK K
      obtain ⟨z100, e101, hx⟩ := exit_elim hx
      rw [hr87 z100 e101] at hx
      obtain rfl := Option.some.inj hx
      exact Walk.ret ⟨by simp [c55, c90, a92, b93, c94, a96, b97, c98, g99], by simp [c55, c90, a92, b93, c94, a96, b97, c98, g99]⟩
    simp only [go_sem, seval, c55, c90, a92, b93, c94, a96, b97, c98, g99]
    repeat refine And.intro (by first | omega | (simp; done) | (simp; omega)) ?_
    refine VGdO hx (fun g102 hx => ?_) (fun g102 hx => ?_)
    · simp only [go_sem, seval, c55, c90, a92, b93, c94, a96, b97, c98, g99, g102]
      refine hK _ _ (by kernel_rfl) (by simp [c55, c90, a92, b93, c94, a96, b97, c98, g99, g102]) ?_
      clear hK K
      refine Walk.condT rfl (Walk.seq (Walk.region' rfl fun K hK => ?_))
      simp only [go_sem, seval, c55, c90, a92, b93, c94, a96, b97, c98, g99, g102]
      refine hK _ ?_
      clear hK K
      obtain ⟨z103, e104, hx⟩ := exit_elim hx
      rw [hr87 z103 e104] at hx
      obtain rfl := Option.some.inj hx
      exact Walk.ret ⟨by simp [c55, c90, a92, b93, c94, a96, b97, c98, g99, g102], by simp [c55, c90, a92, b93, c94, a96, b97, c98, g99, g102]⟩
    obtain ⟨v23, h105, hx⟩ := bind_elim hx
    simp only [go_sem, seval, c55, c90, a92, b93, c94, a96, b97, c98, g99, g102]
    repeat refine And.intro (by first | omega | (simp; done) | (simp; omega)) ?_
    refine VCl.pure rfl (by simp only [go_sem, seval, c55, c90, a92, b93, c94, a96, b97, c98, g99, g102]; try simp) (ref06_Ints_ok v21.Coefs v22.Coefs _ h105) (by simp only [go_sem, seval, c55, c90, a92, b93, c94, a96, b97, c98, g99, g102]; try simp) (by simp only [go_sem, seval, c55, c90, a92, b93, c94, a96, b97, c98, g99, g102]; try simp) (by simp only [go_sem, seval, c55, c90, a92, b93, c94, a96, b97, c98, g99, g102]; try simp) (by simp only [go_sem, seval, c55, c90, a92, b93, c94, a96, b97, c98, g99, g102]; try simp) (by simp only [go_sem, seval, c55, c90, a92, b93, c94, a96, b97, c98, g99, g102]; try simp) (by simp only [go_sem, seval, c55, c90, a92, b93, c94, a96, b97, c98, g99, g102]; try simp) ?_
    simp only [go_sem, seval, c55, c90, a92, b93, c94, a96, b97, c98, g99, g102]
    refine hK _ _ (by kernel_rfl) (by simp [c55, c90, a92, b93, c94, a96, b97, c98, g99, g102]) ?_
    clear hK K
    refine Walk.condO rfl hx (fun c106 hx => ?_) (fun c106 hx => ?_)
    · refine Walk.seq (Walk.region' rfl fun K hK => ?_)
      simp only [go_sem, seval, c55, c90, a92, b93, c94, a96, b97, c98, g99, g102, c106]
      refine hK _ ?_
      clear hK K
      obtain ⟨z107, e108, hx⟩ := exit_elim hx
      rw [hr87 z107 e108] at hx
      obtain rfl := Option.some.inj hx
      exact Walk.ret ⟨by simp [c55, c90, a92, b93, c94, a96, b97, c98, g99, g102, c106], by simp [c55, c90, a92, b93, c94, a96, b97, c98, g99, g102, c106]⟩
    refine Walk.skip (Walk.inBlock (Walk.region' rfl fun K hK => ?_))
    simp only [go_sem, seval, c55, c90, a92, b93, c94, a96, b97, c98, g99, g102, c106]
    refine hK _ ?_
    clear hK K
    exact Walk.weaken _ (by simp [c55, c90, a92, b93, c94, a96, b97, c98, g99, g102, c106] <;> omega) (by simp [c55, c90, a92, b93, c94, a96, b97, c98, g99, g102, c106] <;> omega) (ih86 _ (cont_elim hx))
  refine Walk.exit rfl ?_
  obtain ⟨z109, e110, hx⟩ := exit_elim hx
  rw [hr87 z109 e110] at hx
  refine Walk.seq (Walk.region' rfl fun K hK => ?_)
  simp only [go_sem, seval, c55, c90]
  refine hK _ ?_
  clear hK K
  obtain rfl := Option.some.inj hx
  exact Walk.ret ⟨by simp [c55, c90], by simp [c55, c90]⟩
noncomputable def law08_BlueprintRows_j0 (v15 : Int × Int × Int × Int × List Form × List Int × List TRange × List TRange × Int × Int) (v20 : List TItem) : Option (Bool) :=
  (blueprint_Rows v15.2.1 v15.2.2.2.2.2.2.2.2.1 v15.2.2.2.2.2.2.2.2.2 v15.2.2.1 v15.2.2.2.2.2.2.2.1 v15.2.2.2.2.2.2.1 v15.2.2.2.2.2.1 v15.2.2.2.2.1 v15.2.2.2.1 v20).bind fun v21 => (ref08_Rows v15.2.1 v15.2.2.2.2.2.2.2.2.1 v15.2.2.2.2.2.2.2.2.2 v15.2.2.1 v15.2.2.2.2.2.2.2.1 v15.2.2.2.2.2.2.1 v15.2.2.2.2.2.1 v15.2.2.2.2.1 v15.2.2.2.1 v20).bind fun v22 => (law08_sameRows v21.1 v22.1).bind fun v23 => bif v23 then (bif decide (v21.2 = v22.2) then ((law08_awake).bind fun v24 => some (v24 : Bool)) else (some (false : Bool))) else (some (false : Bool))
noncomputable def law08_BlueprintRows (v1 : List Int) : Option (Bool) :=
  (mk_New v1).bind fun v14 => (mk_Tape_Blueprint v14 0 6).bind fun v15 => (mk_Tape_Items v14 v15.1 6).bind fun v16 => (mk_Tape_One v14 v16.1 8).bind fun v25 => bif v25.1 then ((mk_Tape_Next v14 v25.2 7).bind fun v26 => (mk_Tape_Item v14 v26.2 v26.1 1 2).bind fun v27 => chk ((v16.2.length + 1) * 80 ≤ 140737488355328) (law08_BlueprintRows_j0 v15 (v16.2 ++ [(TItem.mk v27.2.1 v27.2.2.1 v27.2.2.2.1 v27.2.2.2.2.2 v27.2.2.2.2.1)]))) else (law08_BlueprintRows_j0 v15 v16.2)
theorem law08_BlueprintRows_ok (v1 : List Int) (r : Bool) (hx : law08_BlueprintRows v1 = some r) :
    ACalls Try.prog 9 [.d (.sl (List.map iD v1))] [] (.d (.bool r)) [] := by
  refine ACalls.of_sem (n := 48) 0 [2] (fn := Try.f9) Try.func9 rfl rfl (.one rfl) rfl (by simp) (by intro i; simp only [hget]; (repeat' split) <;> simp <;> omega) ?_
  unfold law08_BlueprintRows at hx
  refine Walk.seq (Walk.region' rfl fun K hK => ?_)
  simp only [go_sem, seval]
  refine hK _ ?_
  clear hK K
  refine Walk.seq (Walk.region' rfl fun K hK => ?_)
  obtain ⟨v14, h23, hx⟩ := bind_elim hx
  have w24 := ((mk_New_ok v1 _ h23).swap 2000 1011)
  simp only [renE, renL, AV.ren, AV.rens, AObj.ren, swp, Option.map_some, reduceIte, Nat.reduceEqDiff] at w24
  simp only [go_sem, seval]
  refine VCl.sub [] [] rfl (by simp only [go_sem, seval, AV.viewXs, AV.viewX, avD]; try simp) (w24) (by simp) (by simp) (by simp) (by simp) (by simp) (by simp) (by simp) (by simp) (by simp) (by simp) ?_
  simp only [go_sem, seval]
  refine hK _ ?_
  clear hK K
  refine Walk.weaken ⟨[(3, .box 1011 0)], [(1011, some (.box [.d (.sl (List.map iD v14)), .d (.int .i64 0)]))]⟩ (by simp <;> omega) (by simp <;> omega) ?_
  refine Walk.seq (Walk.region' rfl fun K hK => ?_)
  obtain ⟨v15, h25, hx⟩ := bind_elim hx
  have w26 := ((((((mk_Tape_Blueprint_ok v14 0 6 _ h25).swap 0 1011).swap 2001 1012).swap 2002 1013).swap 2003 1014).swap 2004 1015)
  simp only [renE, renL, AV.ren, AV.rens, AObj.ren, swp, Option.map_some, reduceIte, Nat.reduceEqDiff] at w26
  simp only [go_sem, seval]
  refine VCl.sub [(1011, some (.box [.d (.sl (List.map iD v14)), .d (.int .i64 0)]))] [] rfl (by simp only [go_sem, seval, AV.viewXs, AV.viewX, avD]; try simp) (w26) (by simp) (by simp) (by simp) (by simp) (by simp) (by simp) (by simp) (by simp) (by simp) (by simp) ?_
  simp only [go_sem, seval]
  refine hK _ ?_
  clear hK K
  refine Walk.weaken ⟨[(3, .box 1011 0), (4, .box 4 0)], [(4, some (.box [.d (.int .i64 v15.2.1), .d (.int .i64 v15.2.2.2.2.2.2.2.2.1), .d (.int .i64 v15.2.2.2.2.2.2.2.2.2), .d (.int .i64 v15.2.2.1), .arr 1012 0 v15.2.2.2.2.2.2.2.1.length, .arr 1013 0 v15.2.2.2.2.2.2.1.length, .arr 1014 0 v15.2.2.2.2.2.1.length, .arr 1015 0 v15.2.2.2.2.1.length, .d (.int .i64 v15.2.2.2.1)])), (1011, some (.box [.d (.sl (List.map iD v14)), .d (.int .i64 v15.1)])), (1012, some (.arr 80 3 (List.map TRange.D v15.2.2.2.2.2.2.2.1))), (1013, some (.arr 80 3 (List.map TRange.D v15.2.2.2.2.2.2.1))), (1014, some (.arr 3 1 (List.map iD v15.2.2.2.2.2.1))), (1015, some (.arr 83 2 (List.map Form.D v15.2.2.2.2.1)))]⟩ (by simp <;> omega) (by simp <;> omega) ?_
  refine Walk.seq (Walk.region' rfl fun K hK => ?_)
  obtain ⟨v16, h27, hx⟩ := bind_elim hx
  have w28 := (((mk_Tape_Items_ok v14 v15.1 6 _ h27).swap 0 1011).swap 2000 1016)
  simp only [renE, renL, AV.ren, AV.rens, AObj.ren, swp, Option.map_some, reduceIte, Nat.reduceEqDiff] at w28
  simp only [go_sem, seval]
  refine VCl.sub [(1011, some (.box [.d (.sl (List.map iD v14)), .d (.int .i64 v15.1)]))] [] rfl (by simp only [go_sem, seval, AV.viewXs, AV.viewX, avD]; try simp) (w28) (by simp) (by simp) (by simp) (by simp) (by simp) (by simp) (by simp) (by simp) (by simp) (by simp) ?_
  simp only [go_sem, seval]
  refine hK _ ?_
  clear hK K
  refine Walk.weaken ⟨[(3, .box 1011 0), (4, .box 4 0), (5, .arr 1016 0 v16.2.length)], [(4, some (.box [.d (.int .i64 v15.2.1), .d (.int .i64 v15.2.2.2.2.2.2.2.2.1), .d (.int .i64 v15.2.2.2.2.2.2.2.2.2), .d (.int .i64 v15.2.2.1), .arr 1012 0 v15.2.2.2.2.2.2.2.1.length, .arr 1013 0 v15.2.2.2.2.2.2.1.length, .arr 1014 0 v15.2.2.2.2.2.1.length, .arr 1015 0 v15.2.2.2.2.1.length, .d (.int .i64 v15.2.2.2.1)])), (1011, some (.box [.d (.sl (List.map iD v14)), .d (.int .i64 v16.1)])), (1012, some (.arr 80 3 (List.map TRange.D v15.2.2.2.2.2.2.2.1))), (1013, some (.arr 80 3 (List.map TRange.D v15.2.2.2.2.2.2.1))), (1014, some (.arr 3 1 (List.map iD v15.2.2.2.2.2.1))), (1015, some (.arr 83 2 (List.map Form.D v15.2.2.2.2.1))), (1016, some (.arr 62 5 (List.map TItem.D v16.2)))]⟩ (by simp <;> omega) (by simp <;> omega) ?_
  refine Walk.seq (Walk.join (G := List TItem) (fun g => ⟨[(4, .box 4 0), (5, .arr 1016 0 g.length)], [(4, some (.box [.d (.int .i64 v15.2.1), .d (.int .i64 v15.2.2.2.2.2.2.2.2.1), .d (.int .i64 v15.2.2.2.2.2.2.2.2.2), .d (.int .i64 v15.2.2.1), .arr 1012 0 v15.2.2.2.2.2.2.2.1.length, .arr 1013 0 v15.2.2.2.2.2.2.1.length, .arr 1014 0 v15.2.2.2.2.2.1.length, .arr 1015 0 v15.2.2.2.2.1.length, .d (.int .i64 v15.2.2.2.1)])), (1012, some (.arr 80 3 (List.map TRange.D v15.2.2.2.2.2.2.2.1))), (1013, some (.arr 80 3 (List.map TRange.D v15.2.2.2.2.2.2.1))), (1014, some (.arr 3 1 (List.map iD v15.2.2.2.2.2.1))), (1015, some (.arr 83 2 (List.map Form.D v15.2.2.2.2.1))), (1016, some (.arr 62 5 (List.map TItem.D g)))]⟩) (fun g => law08_BlueprintRows_j0 v15 g) hx (fun v20 hx => ?_) (fun fin37 => ?_))
  · unfold law08_BlueprintRows_j0 at hx
    try dsimp only at hx ⊢
    refine Walk.seq ?_
    refine Walk.weaken ⟨[(4, .box 4 0), (5, .arr 1016 0 v20.length)], [(4, some (.box [.d (.int .i64 v15.2.1), .d (.int .i64 v15.2.2.2.2.2.2.2.2.1), .d (.int .i64 v15.2.2.2.2.2.2.2.2.2), .d (.int .i64 v15.2.2.1), .arr 1012 0 v15.2.2.2.2.2.2.2.1.length, .arr 1013 0 v15.2.2.2.2.2.2.1.length, .arr 1014 0 v15.2.2.2.2.2.1.length, .arr 1015 0 v15.2.2.2.2.1.length, .d (.int .i64 v15.2.2.2.1)])), (1012, some (.arr 80 3 (List.map TRange.D v15.2.2.2.2.2.2.2.1))), (1013, some (.arr 80 3 (List.map TRange.D v15.2.2.2.2.2.2.1))), (1014, some (.arr 3 1 (List.map iD v15.2.2.2.2.2.1))), (1015, some (.arr 83 2 (List.map Form.D v15.2.2.2.2.1))), (1016, some (.arr 62 5 (List.map TItem.D v20)))]⟩ (by simp <;> omega) (by simp <;> omega) ?_
    refine Walk.freeze 1012 80 3 (List.map TRange.D v15.2.2.2.2.2.2.2.1) [(4, .box 4 0), (5, .arr 1016 0 v20.length)] [(4, some (.box [.d (.int .i64 v15.2.1), .d (.int .i64 v15.2.2.2.2.2.2.2.2.1), .d (.int .i64 v15.2.2.2.2.2.2.2.2.2), .d (.int .i64 v15.2.2.1), .d (.sl (List.map TRange.D v15.2.2.2.2.2.2.2.1)), .arr 1013 0 v15.2.2.2.2.2.2.1.length, .arr 1014 0 v15.2.2.2.2.2.1.length, .arr 1015 0 v15.2.2.2.2.1.length, .d (.int .i64 v15.2.2.2.1)])), (1013, some (.arr 80 3 (List.map TRange.D v15.2.2.2.2.2.2.1))), (1014, some (.arr 3 1 (List.map iD v15.2.2.2.2.2.1))), (1015, some (.arr 83 2 (List.map Form.D v15.2.2.2.2.1))), (1016, some (.arr 62 5 (List.map TItem.D v20)))] (by simp) (by simp) (by simp) ?_
    refine Walk.weaken ⟨[(4, .box 4 0), (5, .arr 1016 0 v20.length)], [(4, some (.box [.d (.int .i64 v15.2.1), .d (.int .i64 v15.2.2.2.2.2.2.2.2.1), .d (.int .i64 v15.2.2.2.2.2.2.2.2.2), .d (.int .i64 v15.2.2.1), .d (.sl (List.map TRange.D v15.2.2.2.2.2.2.2.1)), .arr 1013 0 v15.2.2.2.2.2.2.1.length, .arr 1014 0 v15.2.2.2.2.2.1.length, .arr 1015 0 v15.2.2.2.2.1.length, .d (.int .i64 v15.2.2.2.1)])), (1013, some (.arr 80 3 (List.map TRange.D v15.2.2.2.2.2.2.1))), (1014, some (.arr 3 1 (List.map iD v15.2.2.2.2.2.1))), (1015, some (.arr 83 2 (List.map Form.D v15.2.2.2.2.1))), (1016, some (.arr 62 5 (List.map TItem.D v20)))]⟩ (by simp <;> omega) (by simp <;> omega) ?_
    refine Walk.freeze 1013 80 3 (List.map TRange.D v15.2.2.2.2.2.2.1) [(4, .box 4 0), (5, .arr 1016 0 v20.length)] [(4, some (.box [.d (.int .i64 v15.2.1), .d (.int .i64 v15.2.2.2.2.2.2.2.2.1), .d (.int .i64 v15.2.2.2.2.2.2.2.2.2), .d (.int .i64 v15.2.2.1), .d (.sl (List.map TRange.D v15.2.2.2.2.2.2.2.1)), .d (.sl (List.map TRange.D v15.2.2.2.2.2.2.1)), .arr 1014 0 v15.2.2.2.2.2.1.length, .arr 1015 0 v15.2.2.2.2.1.length, .d (.int .i64 v15.2.2.2.1)])), (1014, some (.arr 3 1 (List.map iD v15.2.2.2.2.2.1))), (1015, some (.arr 83 2 (List.map Form.D v15.2.2.2.2.1))), (1016, some (.arr 62 5 (List.map TItem.D v20)))] (by simp) (by simp) (by simp) ?_
    refine Walk.weaken ⟨[(4, .box 4 0), (5, .arr 1016 0 v20.length)], [(4, some (.box [.d (.int .i64 v15.2.1), .d (.int .i64 v15.2.2.2.2.2.2.2.2.1), .d (.int .i64 v15.2.2.2.2.2.2.2.2.2), .d (.int .i64 v15.2.2.1), .d (.sl (List.map TRange.D v15.2.2.2.2.2.2.2.1)), .d (.sl (List.map TRange.D v15.2.2.2.2.2.2.1)), .arr 1014 0 v15.2.2.2.2.2.1.length, .arr 1015 0 v15.2.2.2.2.1.length, .d (.int .i64 v15.2.2.2.1)])), (1014, some (.arr 3 1 (List.map iD v15.2.2.2.2.2.1))), (1015, some (.arr 83 2 (List.map Form.D v15.2.2.2.2.1))), (1016, some (.arr 62 5 (List.map TItem.D v20)))]⟩ (by simp <;> omega) (by simp <;> omega) ?_
    refine Walk.freeze 1014 3 1 (List.map iD v15.2.2.2.2.2.1) [(4, .box 4 0), (5, .arr 1016 0 v20.length)] [(4, some (.box [.d (.int .i64 v15.2.1), .d (.int .i64 v15.2.2.2.2.2.2.2.2.1), .d (.int .i64 v15.2.2.2.2.2.2.2.2.2), .d (.int .i64 v15.2.2.1), .d (.sl (List.map TRange.D v15.2.2.2.2.2.2.2.1)), .d (.sl (List.map TRange.D v15.2.2.2.2.2.2.1)), .d (.sl (List.map iD v15.2.2.2.2.2.1)), .arr 1015 0 v15.2.2.2.2.1.length, .d (.int .i64 v15.2.2.2.1)])), (1015, some (.arr 83 2 (List.map Form.D v15.2.2.2.2.1))), (1016, some (.arr 62 5 (List.map TItem.D v20)))] (by simp) (by simp) (by simp) ?_
    refine Walk.weaken ⟨[(4, .box 4 0), (5, .arr 1016 0 v20.length)], [(4, some (.box [.d (.int .i64 v15.2.1), .d (.int .i64 v15.2.2.2.2.2.2.2.2.1), .d (.int .i64 v15.2.2.2.2.2.2.2.2.2), .d (.int .i64 v15.2.2.1), .d (.sl (List.map TRange.D v15.2.2.2.2.2.2.2.1)), .d (.sl (List.map TRange.D v15.2.2.2.2.2.2.1)), .d (.sl (List.map iD v15.2.2.2.2.2.1)), .arr 1015 0 v15.2.2.2.2.1.length, .d (.int .i64 v15.2.2.2.1)])), (1015, some (.arr 83 2 (List.map Form.D v15.2.2.2.2.1))), (1016, some (.arr 62 5 (List.map TItem.D v20)))]⟩ (by simp <;> omega) (by simp <;> omega) ?_
    refine Walk.freeze 1015 83 2 (List.map Form.D v15.2.2.2.2.1) [(4, .box 4 0), (5, .arr 1016 0 v20.length)] [(4, some (.box [.d (.int .i64 v15.2.1), .d (.int .i64 v15.2.2.2.2.2.2.2.2.1), .d (.int .i64 v15.2.2.2.2.2.2.2.2.2), .d (.int .i64 v15.2.2.1), .d (.sl (List.map TRange.D v15.2.2.2.2.2.2.2.1)), .d (.sl (List.map TRange.D v15.2.2.2.2.2.2.1)), .d (.sl (List.map iD v15.2.2.2.2.2.1)), .d (.sl (List.map Form.D v15.2.2.2.2.1)), .d (.int .i64 v15.2.2.2.1)])), (1016, some (.arr 62 5 (List.map TItem.D v20)))] (by simp) (by simp) (by simp) ?_
    refine Walk.weaken ⟨[(4, .box 4 0), (5, .arr 1016 0 v20.length)], [(4, some (.box [.d (.int .i64 v15.2.1), .d (.int .i64 v15.2.2.2.2.2.2.2.2.1), .d (.int .i64 v15.2.2.2.2.2.2.2.2.2), .d (.int .i64 v15.2.2.1), .d (.sl (List.map TRange.D v15.2.2.2.2.2.2.2.1)), .d (.sl (List.map TRange.D v15.2.2.2.2.2.2.1)), .d (.sl (List.map iD v15.2.2.2.2.2.1)), .d (.sl (List.map Form.D v15.2.2.2.2.1)), .d (.int .i64 v15.2.2.2.1)])), (1016, some (.arr 62 5 (List.map TItem.D v20)))]⟩ (by simp <;> omega) (by simp <;> omega) ?_
    refine Walk.freeze 1016 62 5 (List.map TItem.D v20) [(4, .box 4 0), (5, .d (.sl (List.map TItem.D v20)))] [(4, some (.box [.d (.int .i64 v15.2.1), .d (.int .i64 v15.2.2.2.2.2.2.2.2.1), .d (.int .i64 v15.2.2.2.2.2.2.2.2.2), .d (.int .i64 v15.2.2.1), .d (.sl (List.map TRange.D v15.2.2.2.2.2.2.2.1)), .d (.sl (List.map TRange.D v15.2.2.2.2.2.2.1)), .d (.sl (List.map iD v15.2.2.2.2.2.1)), .d (.sl (List.map Form.D v15.2.2.2.2.1)), .d (.int .i64 v15.2.2.2.1)]))] (by simp) (by simp) (by simp) ?_
    refine Walk.region' rfl fun K hK => ?_
    obtain ⟨v21, h38, hx⟩ := bind_elim hx
    have w39 := ((blueprint_Rows_ok v15.2.1 v15.2.2.2.2.2.2.2.2.1 v15.2.2.2.2.2.2.2.2.2 v15.2.2.1 v15.2.2.2.2.2.2.2.1 v15.2.2.2.2.2.2.1 v15.2.2.2.2.2.1 v15.2.2.2.2.1 v15.2.2.2.1 v20 _ h38).swap 2000 1019)
    simp only [renE, renL, AV.ren, AV.rens, AObj.ren, swp, Option.map_some, reduceIte, Nat.reduceEqDiff] at w39
    simp only [go_sem, seval]
    refine VCl.pure rfl (by simp only [go_sem, seval]; try simp) (w39) (by simp only [go_sem, seval]; try simp) (by simp only [go_sem, seval]; try simp) (by simp only [go_sem, seval]; try simp) (by simp only [go_sem, seval]; try simp) (by simp only [go_sem, seval]; try simp) (by simp only [go_sem, seval]; try simp) ?_
    simp only [go_sem, seval]
    refine hK _ ?_
    clear hK K
    refine Walk.weaken ⟨[(4, .box 4 0), (5, .d (.sl (List.map TItem.D v20))), (6, .arr 1019 0 v21.1.length), (7, .d (.int .i64 v21.2))], [(4, some (.box [.d (.int .i64 v15.2.1), .d (.int .i64 v15.2.2.2.2.2.2.2.2.1), .d (.int .i64 v15.2.2.2.2.2.2.2.2.2), .d (.int .i64 v15.2.2.1), .d (.sl (List.map TRange.D v15.2.2.2.2.2.2.2.1)), .d (.sl (List.map TRange.D v15.2.2.2.2.2.2.1)), .d (.sl (List.map iD v15.2.2.2.2.2.1)), .d (.sl (List.map Form.D v15.2.2.2.2.1)), .d (.int .i64 v15.2.2.2.1)])), (1019, some (.arr 32 3 (List.map Row.D v21.1)))]⟩ (by simp <;> omega) (by simp <;> omega) ?_
    refine Walk.seq (Walk.region' rfl fun K hK => ?_)
    obtain ⟨v22, h40, hx⟩ := bind_elim hx
    have w41 := ((ref08_Rows_ok v15.2.1 v15.2.2.2.2.2.2.2.2.1 v15.2.2.2.2.2.2.2.2.2 v15.2.2.1 v15.2.2.2.2.2.2.2.1 v15.2.2.2.2.2.2.1 v15.2.2.2.2.2.1 v15.2.2.2.2.1 v15.2.2.2.1 v20 _ h40).swap 2000 1020)
    simp only [renE, renL, AV.ren, AV.rens, AObj.ren, swp, Option.map_some, reduceIte, Nat.reduceEqDiff] at w41
    simp only [go_sem, seval]
    refine VCl.pure rfl (by simp only [go_sem, seval]; try simp) (w41) (by simp only [go_sem, seval]; try simp) (by simp only [go_sem, seval]; try simp) (by simp only [go_sem, seval]; try simp) (by simp only [go_sem, seval]; try simp) (by simp only [go_sem, seval]; try simp) (by simp only [go_sem, seval]; try simp) ?_
    simp only [go_sem, seval]
    refine hK _ ?_
    clear hK K
    refine Walk.weaken ⟨[(6, .arr 1019 0 v21.1.length), (7, .d (.int .i64 v21.2)), (8, .arr 1020 0 v22.1.length), (9, .d (.int .i64 v22.2))], [(1019, some (.arr 32 3 (List.map Row.D v21.1))), (1020, some (.arr 32 3 (List.map Row.D v22.1)))]⟩ (by simp <;> omega) (by simp <;> omega) ?_
    refine Walk.seq (Walk.region' rfl fun K hK => ?_)
    obtain ⟨v23, h42, hx⟩ := bind_elim hx
    simp only [go_sem, seval]
    refine VCl.lent rfl (by simp only [go_sem, seval]; try simp) (law08_sameRows_ok v21.1 v22.1 _ h42) (by simp) (by simp) (by simp) (by simp) (by simp) (by simp) (by simp) ?_
    simp only [go_sem, seval]
    refine VGdO hx (fun g43 hx => ?_) (fun g43 hx => ?_)
    · simp only [go_sem, seval, g43]
      refine VGdO hx (fun g44 hx => ?_) (fun g44 hx => ?_)
      · obtain ⟨v24, h45, hx⟩ := bind_elim hx
        simp only [go_sem, seval, g43, g44]
        refine VCl.pure rfl (by simp only [go_sem, seval, g43, g44]; try simp) (law08_awake_ok _ h45) (by simp only [go_sem, seval, g43, g44]; try simp) (by simp only [go_sem, seval, g43, g44]; try simp) (by simp only [go_sem, seval, g43, g44]; try simp) (by simp only [go_sem, seval, g43, g44]; try simp) (by simp only [go_sem, seval, g43, g44]; try simp) (by simp only [go_sem, seval, g43, g44]; try simp) ?_
        simp only [go_sem, seval, g43, g44]
        refine hK _ ?_
        clear hK K
        obtain rfl := Option.some.inj hx
        exact Walk.ret ⟨by simp [g43, g44], by simp [g43, g44]⟩
      simp only [go_sem, seval, g43, g44]
      refine hK _ ?_
      clear hK K
      obtain rfl := Option.some.inj hx
      exact Walk.ret ⟨by simp [g43, g44], by simp [g43, g44]⟩
    simp only [go_sem, seval, g43]
    refine hK _ ?_
    clear hK K
    obtain rfl := Option.some.inj hx
    exact Walk.ret ⟨by simp [g43], by simp [g43]⟩
  refine Walk.seq (Walk.region' rfl fun K hK => ?_)
  obtain ⟨v25, h46, hx⟩ := bind_elim hx
  have w47 := ((mk_Tape_One_ok v14 v16.1 8 _ h46).swap 0 1011)
  simp only [renE, renL, AV.ren, AV.rens, AObj.ren, swp, Option.map_some, reduceIte, Nat.reduceEqDiff] at w47
  simp only [go_sem, seval]
  refine VCl.sub [(1011, some (.box [.d (.sl (List.map iD v14)), .d (.int .i64 v16.1)]))] [] rfl (by simp only [go_sem, seval, AV.viewXs, AV.viewX, avD]; try simp) (w47) (by simp) (by simp) (by simp) (by simp) (by simp) (by simp) (by simp) (by simp) (by simp) (by simp) ?_
  simp only [go_sem, seval]
  refine hK _ ?_
  clear hK K
  refine Walk.weaken ⟨[(3, .box 1011 0), (4, .box 4 0), (5, .arr 1016 0 v16.2.length), (17, .d (.bool v25.1))], [(4, some (.box [.d (.int .i64 v15.2.1), .d (.int .i64 v15.2.2.2.2.2.2.2.2.1), .d (.int .i64 v15.2.2.2.2.2.2.2.2.2), .d (.int .i64 v15.2.2.1), .arr 1012 0 v15.2.2.2.2.2.2.2.1.length, .arr 1013 0 v15.2.2.2.2.2.2.1.length, .arr 1014 0 v15.2.2.2.2.2.1.length, .arr 1015 0 v15.2.2.2.2.1.length, .d (.int .i64 v15.2.2.2.1)])), (1011, some (.box [.d (.sl (List.map iD v14)), .d (.int .i64 v25.2)])), (1012, some (.arr 80 3 (List.map TRange.D v15.2.2.2.2.2.2.2.1))), (1013, some (.arr 80 3 (List.map TRange.D v15.2.2.2.2.2.2.1))), (1014, some (.arr 3 1 (List.map iD v15.2.2.2.2.2.1))), (1015, some (.arr 83 2 (List.map Form.D v15.2.2.2.2.1))), (1016, some (.arr 62 5 (List.map TItem.D v16.2)))]⟩ (by simp <;> omega) (by simp <;> omega) ?_
  refine Walk.condO rfl hx (fun c48 hx => ?_) (fun c48 hx => ?_)
  · refine Walk.region' rfl fun K hK => ?_
    obtain ⟨v26, h49, hx⟩ := bind_elim hx
    have w50 := ((mk_Tape_Next_ok v14 v25.2 7 _ h49).swap 0 1011)
    simp only [renE, renL, AV.ren, AV.rens, AObj.ren, swp, Option.map_some, reduceIte, Nat.reduceEqDiff] at w50
    simp only [go_sem, seval, c48]
    refine VCl.sub [(1011, some (.box [.d (.sl (List.map iD v14)), .d (.int .i64 v25.2)]))] [] rfl (by simp only [go_sem, seval, AV.viewXs, AV.viewX, avD, c48]; try simp) (w50) (by simp [c48]) (by simp [c48]) (by simp [c48]) (by simp [c48]) (by simp [c48]) (by simp [c48]) (by simp [c48]) (by simp [c48]) (by simp [c48]) (by simp [c48]) ?_
    obtain ⟨v27, h51, hx⟩ := bind_elim hx
    have w52 := ((((mk_Tape_Item_ok v14 v26.2 v26.1 1 2 _ h51).swap 0 1011).swap 2001 1021).swap 2002 1022)
    simp only [renE, renL, AV.ren, AV.rens, AObj.ren, swp, Option.map_some, reduceIte, Nat.reduceEqDiff] at w52
    simp only [go_sem, seval, c48]
    refine VCl.sub [(1011, some (.box [.d (.sl (List.map iD v14)), .d (.int .i64 v26.2)]))] [] rfl (by simp only [go_sem, seval, AV.viewXs, AV.viewX, avD, c48]; try simp) (w52) (by simp [c48]) (by simp [c48]) (by simp [c48]) (by simp [c48]) (by simp [c48]) (by simp [c48]) (by simp [c48]) (by simp [c48]) (by simp [c48]) (by simp [c48]) ?_
    obtain ⟨k53, hx⟩ := chk_elim hx
    simp only [go_sem, seval, c48, k53]
    repeat refine And.intro (by first | omega | (simp; done) | (simp; omega)) ?_
    refine hK _ ?_
    clear hK K
    refine Walk.weaken ⟨[(4, .box 4 0), (5, .arr 1016 0 (((v16.2 ++ [(TItem.mk v27.2.1 v27.2.2.1 v27.2.2.2.1 v27.2.2.2.2.2 v27.2.2.2.2.1)])).length))], [(4, some (.box [.d (.int .i64 v15.2.1), .d (.int .i64 v15.2.2.2.2.2.2.2.2.1), .d (.int .i64 v15.2.2.2.2.2.2.2.2.2), .d (.int .i64 v15.2.2.1), .arr 1012 0 v15.2.2.2.2.2.2.2.1.length, .arr 1013 0 v15.2.2.2.2.2.2.1.length, .arr 1014 0 v15.2.2.2.2.2.1.length, .arr 1015 0 v15.2.2.2.2.1.length, .d (.int .i64 v15.2.2.2.1)])), (1012, some (.arr 80 3 (List.map TRange.D v15.2.2.2.2.2.2.2.1))), (1013, some (.arr 80 3 (List.map TRange.D v15.2.2.2.2.2.2.1))), (1014, some (.arr 3 1 (List.map iD v15.2.2.2.2.2.1))), (1015, some (.arr 83 2 (List.map Form.D v15.2.2.2.2.1))), (1016, some (.arr 62 5 (List.map TItem.D ((v16.2 ++ [(TItem.mk v27.2.1 v27.2.2.1 v27.2.2.2.1 v27.2.2.2.2.2 v27.2.2.2.2.1)])))))]⟩ (by simp [c48, k53] <;> omega) (by simp [c48, k53] <;> omega) ?_
    exact Walk.weaken _ (by simp [c48, k53] <;> omega) (by simp [c48, k53] <;> omega) (fin37 (v16.2 ++ [(TItem.mk v27.2.1 v27.2.2.1 v27.2.2.2.1 v27.2.2.2.2.2 v27.2.2.2.2.1)]) hx)
  refine Walk.skip ?_
  exact Walk.weaken _ (by simp [c48] <;> omega) (by simp [c48] <;> omega) (fin37 v16.2 hx)
noncomputable def law08_BlueprintMany_l1 (v3 : Int) (v245 : Int) (v227 : List TItem) (v246 : Int) (v228 : Int) (v249 : Int) (v250 : List Int) : Option ((Int × List Int) ⊕ ((List TItem × Int) ⊕ (Bool))) :=
  (mk_Cut v3 9).bind fun v254 => bif decide (v249 < v254) then (bif decide (¬ v249 = v245) then (chk ((v250.length + 1) * 8 ≤ 140737488355328) (contO ((IntKind.i64.wrap (v249 + 1), (v250 ++ [v249])) : Int × List Int))) else (contO ((IntKind.i64.wrap (v249 + 1), v250) : Int × List Int))) else (exitO (chk ((v227.length + 1) * 80 ≤ 140737488355328) (contO (((v227 ++ ([(TItem.mk v245 1 [113] [(Part.mk 1 (IntKind.i64.wrap (1 + v246)) 0 0 0 0)] v250)])), IntKind.i64.wrap (v228 + 1)) : List TItem × Int))))
noncomputable def law08_BlueprintMany_l0 (v1 : Int) (v2 : Int) (v3 : Int) (v227 : List TItem) (v228 : Int) : Option ((List TItem × Int) ⊕ (Bool)) :=
  (mk_Cut v1 14).bind fun v243 => bif decide (v228 < v243) then ((mk_Cut v2 13).bind fun v244 => (mk_Cut v228 (IntKind.i64.wrap (1 + v244))).bind fun v245 => (mk_Cut v228 3).bind fun v246 => iter (fun g : Int × List Int => law08_BlueprintMany_l1 v3 v245 v227 v246 v228 g.1 g.2) (0, [])) else (exitO ((blueprint_Rows 0 12 0 100 [] [] [] [] 0 v227).bind fun v255 => (ref08_Rows 0 12 0 100 [] [] [] [] 0 v227).bind fun v256 => (law08_sameRows v255.1 v256.1).bind fun v257 => bif v257 then (bif decide (v255.2 = v256.2) then ((law08_awake).bind fun v258 => some (v258 : Bool)) else (some (false : Bool))) else (some (false : Bool))))
noncomputable def law08_BlueprintMany (v1 : Int) (v2 : Int) (v3 : Int) : Option (Bool) :=
  iter (fun g : List TItem × Int => law08_BlueprintMany_l0 v1 v2 v3 g.1 g.2) ([], 0)
theorem law08_BlueprintMany_ok (v1 : Int) (v2 : Int) (v3 : Int) (r : Bool) (hx : law08_BlueprintMany v1 v2 v3 = some r) :
    ACalls Try.prog 10 [.d (.int .i64 v1), .d (.int .i64 v2), .d (.int .i64 v3)] [] (.d (.bool r)) [] := by
  refine ACalls.of_sem (n := 77) 0 [6] (fn := Try.f10) Try.func10 rfl rfl (.one rfl) rfl (by simp) (by intro i; simp only [hget]; (repeat' split) <;> simp <;> omega) ?_
  unfold law08_BlueprintMany at hx
  refine Walk.seq (Walk.region' rfl fun K hK => ?_)
  simp only [go_sem, seval]
  refine hK _ ?_
  clear hK K
  refine Walk.seq (Walk.region' rfl fun K hK => ?_)
  simp only [go_sem, seval]
  refine hK _ ?_
  clear hK K
  refine Walk.seq (Walk.seq (Walk.region' rfl fun K hK => ?_))
  simp only [go_sem, seval]
  refine hK _ ?_
  clear hK K
  refine Walk.block (Walk.loop ?_)
  refine Walk.weaken ⟨[(0, .d (.int .i64 v1)), (1, .d (.int .i64 v2)), (2, .d (.int .i64 v3)), (7, .nils), (8, .d (.int .i64 0))], []⟩ (by simp <;> omega) (by simp <;> omega) ?_
  refine Walk.up 1024 62 5 [(0, .d (.int .i64 v1)), (1, .d (.int .i64 v2)), (2, .d (.int .i64 v3)), (7, .arr 1024 0 0), (8, .d (.int .i64 0))] [] (by simp) (by simp) (by omega) (by simp) (by simp) (by simp) ?_
  refine Walk.weaken ⟨[(0, .d (.int .i64 v1)), (1, .d (.int .i64 v2)), (2, .d (.int .i64 v3)), (7, .arr 1024 0 0), (8, .d (.int .i64 0))], [(1024, some (.arr 62 5 (List.map TItem.D [])))]⟩ (by simp <;> omega) (by simp <;> omega) ?_
  refine Walk.iter (σ := List TItem × Int) (fun g => ⟨[(0, .d (.int .i64 v1)), (1, .d (.int .i64 v2)), (2, .d (.int .i64 v3)), (7, .arr 1024 0 g.1.length), (8, .d (.int .i64 g.2))], [(1024, some (.arr 62 5 (List.map TItem.D g.1)))]⟩) (fun g : List TItem × Int => law08_BlueprintMany_l0 v1 v2 v3 g.1 g.2) _ (fun g y630 hx ih584 hr585 => ?_) ([], 0) hx
  obtain ⟨v227, v228⟩ := g
  unfold law08_BlueprintMany_l0 at hx
  try dsimp only at hx ⊢
  refine Walk.seq (Walk.seq (Walk.region' rfl fun K hK => ?_))
  obtain ⟨v243, h588, hx⟩ := bind_elim hx
  simp only [go_sem, seval]
  refine VCl.pure rfl (by simp only [go_sem, seval]; try simp) (mk_Cut_ok v1 14 _ h588) (by simp only [go_sem, seval]; try simp) (by simp only [go_sem, seval]; try simp) (by simp only [go_sem, seval]; try simp) (by simp only [go_sem, seval]; try simp) (by simp only [go_sem, seval]; try simp) (by simp only [go_sem, seval]; try simp) ?_
  simp only [go_sem, seval]
  refine hK _ ?_
  clear hK K
  refine Walk.condO rfl hx (fun c590 hx => ?_) (fun c590 hx => ?_)
  · refine Walk.skip (Walk.seq (Walk.block (Walk.seq (Walk.region' rfl fun K hK => ?_))))
    obtain ⟨v244, h591, hx⟩ := bind_elim hx
    simp only [go_sem, seval, c590]
    refine VCl.pure rfl (by simp only [go_sem, seval, c590]; try simp) (mk_Cut_ok v2 13 _ h591) (by simp only [go_sem, seval, c590]; try simp) (by simp only [go_sem, seval, c590]; try simp) (by simp only [go_sem, seval, c590]; try simp) (by simp only [go_sem, seval, c590]; try simp) (by simp only [go_sem, seval, c590]; try simp) (by simp only [go_sem, seval, c590]; try simp) ?_
    obtain ⟨v245, h592, hx⟩ := bind_elim hx
    simp only [go_sem, seval, c590]
    refine VCl.pure rfl (by simp only [go_sem, seval, c590]; try simp) (mk_Cut_ok v228 (IntKind.i64.wrap (1 + v244)) _ h592) (by simp only [go_sem, seval, c590]; try simp) (by simp only [go_sem, seval, c590]; try simp) (by simp only [go_sem, seval, c590]; try simp) (by simp only [go_sem, seval, c590]; try simp) (by simp only [go_sem, seval, c590]; try simp) (by simp only [go_sem, seval, c590]; try simp) ?_
    obtain ⟨v246, h593, hx⟩ := bind_elim hx
    simp only [go_sem, seval, c590]
    refine VCl.pure rfl (by simp only [go_sem, seval, c590]; try simp) (mk_Cut_ok v228 3 _ h593) (by simp only [go_sem, seval, c590]; try simp) (by simp only [go_sem, seval, c590]; try simp) (by simp only [go_sem, seval, c590]; try simp) (by simp only [go_sem, seval, c590]; try simp) (by simp only [go_sem, seval, c590]; try simp) (by simp only [go_sem, seval, c590]; try simp) ?_
    simp only [go_sem, seval, c590]
    refine hK _ ?_
    clear hK K
    refine Walk.weaken ⟨[(0, .d (.int .i64 v1)), (1, .d (.int .i64 v2)), (2, .d (.int .i64 v3)), (7, .arr 1024 0 v227.length), (8, .d (.int .i64 v228)), (9, .box 9 0)], [(9, some (.box [.d (.int .i64 v245), .d (.int .i64 1), .d (.str [113]), .arr 31 0 1, .nils])), (31, some (.arr 68 6 (List.map Part.D [(Part.mk 1 (IntKind.i64.wrap (1 + v246)) 0 0 0 0)]))), (1024, some (.arr 62 5 (List.map TItem.D v227)))]⟩ (by simp [c590] <;> omega) (by simp [c590] <;> omega) ?_
    refine Walk.seq (Walk.seq (Walk.region' rfl fun K hK => ?_))
    simp only [go_sem, seval, c590]
    refine hK _ ?_
    clear hK K
    refine Walk.block (Walk.loop ?_)
    refine Walk.weaken ⟨[(0, .d (.int .i64 v1)), (1, .d (.int .i64 v2)), (2, .d (.int .i64 v3)), (7, .arr 1024 0 v227.length), (8, .d (.int .i64 v228)), (9, .box 9 0), (10, .d (.int .i64 0))], [(9, some (.box [.d (.int .i64 v245), .d (.int .i64 1), .d (.str [113]), .arr 31 0 1, .nils])), (31, some (.arr 68 6 (List.map Part.D [(Part.mk 1 (IntKind.i64.wrap (1 + v246)) 0 0 0 0)]))), (1024, some (.arr 62 5 (List.map TItem.D v227)))]⟩ (by simp [c590] <;> omega) (by simp [c590] <;> omega) ?_
    refine Walk.up 1026 3 1 [(0, .d (.int .i64 v1)), (1, .d (.int .i64 v2)), (2, .d (.int .i64 v3)), (7, .arr 1024 0 v227.length), (8, .d (.int .i64 v228)), (9, .box 9 0), (10, .d (.int .i64 0))] [(9, some (.box [.d (.int .i64 v245), .d (.int .i64 1), .d (.str [113]), .arr 31 0 1, .arr 1026 0 0])), (31, some (.arr 68 6 (List.map Part.D [(Part.mk 1 (IntKind.i64.wrap (1 + v246)) 0 0 0 0)]))), (1024, some (.arr 62 5 (List.map TItem.D v227)))] (by simp) (by simp) (by omega) (by simp) (by simp) (by simp) ?_
    refine Walk.weaken ⟨[(0, .d (.int .i64 v1)), (1, .d (.int .i64 v2)), (2, .d (.int .i64 v3)), (7, .arr 1024 0 v227.length), (8, .d (.int .i64 v228)), (9, .box 9 0), (10, .d (.int .i64 0))], [(9, some (.box [.d (.int .i64 v245), .d (.int .i64 1), .d (.str [113]), .arr 31 0 1, .arr 1026 0 0])), (31, some (.arr 68 6 (List.map Part.D [(Part.mk 1 (IntKind.i64.wrap (1 + v246)) 0 0 0 0)]))), (1024, some (.arr 62 5 (List.map TItem.D v227))), (1026, some (.arr 3 1 (List.map iD [])))]⟩ (by simp [c590] <;> omega) (by simp [c590] <;> omega) ?_
    refine Walk.iter (σ := Int × List Int) (fun g => ⟨[(0, .d (.int .i64 v1)), (1, .d (.int .i64 v2)), (2, .d (.int .i64 v3)), (7, .arr 1024 0 v227.length), (8, .d (.int .i64 v228)), (9, .box 9 0), (10, .d (.int .i64 g.1))], [(9, some (.box [.d (.int .i64 v245), .d (.int .i64 1), .d (.str [113]), .arr 31 0 1, .arr 1026 0 g.2.length])), (31, some (.arr 68 6 (List.map Part.D [(Part.mk 1 (IntKind.i64.wrap (1 + v246)) 0 0 0 0)]))), (1024, some (.arr 62 5 (List.map TItem.D v227))), (1026, some (.arr 3 1 (List.map iD g.2)))]⟩) (fun g : Int × List Int => law08_BlueprintMany_l1 v3 v245 v227 v246 v228 g.1 g.2) _ (fun g y619 hx ih607 hr608 => ?_) (0, []) hx
    obtain ⟨v249, v250⟩ := g
    unfold law08_BlueprintMany_l1 at hx
    try dsimp only at hx ⊢
    refine Walk.seq (Walk.seq (Walk.region' rfl fun K hK => ?_))
    obtain ⟨v254, h611, hx⟩ := bind_elim hx
    simp only [go_sem, seval, c590]
    refine VCl.pure rfl (by simp only [go_sem, seval, c590]; try simp) (mk_Cut_ok v3 9 _ h611) (by simp only [go_sem, seval, c590]; try simp) (by simp only [go_sem, seval, c590]; try simp) (by simp only [go_sem, seval, c590]; try simp) (by simp only [go_sem, seval, c590]; try simp) (by simp only [go_sem, seval, c590]; try simp) (by simp only [go_sem, seval, c590]; try simp) ?_
    simp only [go_sem, seval, c590]
    refine hK _ ?_
    clear hK K
    refine Walk.condO rfl hx (fun c613 hx => ?_) (fun c613 hx => ?_)
    · refine Walk.skip (Walk.seq (Walk.block (Walk.seq (Walk.region' rfl fun K hK => ?_))))
      simp only [go_sem, seval, c590, c613]
      refine hK _ ?_
      clear hK K
      refine Walk.condO rfl hx (fun c614 hx => ?_) (fun c614 hx => ?_)
      · refine Walk.region' rfl fun K hK => ?_
        obtain ⟨k615, hx⟩ := chk_elim hx
        simp only [go_sem, seval, c590, c613, c614, k615]
        repeat refine And.intro (by first | omega | (simp; done) | (simp; omega)) ?_
        refine hK _ ?_
        clear hK K
        refine Walk.weaken ⟨[(0, .d (.int .i64 v1)), (1, .d (.int .i64 v2)), (2, .d (.int .i64 v3)), (7, .arr 1024 0 v227.length), (8, .d (.int .i64 v228)), (9, .box 9 0), (10, .d (.int .i64 v249))], [(9, some (.box [.d (.int .i64 v245), .d (.int .i64 1), .d (.str [113]), .arr 31 0 1, .arr 1026 0 ((v250 ++ [v249]).length)])), (31, some (.arr 68 6 (List.map Part.D [(Part.mk 1 (IntKind.i64.wrap (1 + v246)) 0 0 0 0)]))), (1024, some (.arr 62 5 (List.map TItem.D v227))), (1026, some (.arr 3 1 (List.map iD (v250 ++ [v249]))))]⟩ (by simp [c590, c613, c614, k615] <;> omega) (by simp [c590, c613, c614, k615] <;> omega) ?_
        refine Walk.inBlock (Walk.region' rfl fun K hK => ?_)
        simp only [go_sem, seval, c590, c613, c614, k615]
        refine hK _ ?_
        clear hK K
        exact Walk.weaken _ (by simp [c590, c613, c614, k615] <;> omega) (by simp [c590, c613, c614, k615] <;> omega) (ih607 _ (cont_elim hx))
      refine Walk.skip (Walk.inBlock (Walk.region' rfl fun K hK => ?_))
      simp only [go_sem, seval, c590, c613, c614]
      refine hK _ ?_
      clear hK K
      exact Walk.weaken _ (by simp [c590, c613, c614] <;> omega) (by simp [c590, c613, c614] <;> omega) (ih607 _ (cont_elim hx))
    refine Walk.exit rfl ?_
    obtain ⟨z616, e617, hx⟩ := exit_elim hx
    rw [hr608 z616 e617] at hx
    refine Walk.region' rfl fun K hK => ?_
    obtain ⟨k618, hx⟩ := chk_elim hx
    simp only [go_sem, seval, c590, c613, k618]
    repeat refine And.intro (by first | omega | (simp; done) | (simp; omega)) ?_
    refine hK _ ?_
    clear hK K
    refine Walk.weaken ⟨[(0, .d (.int .i64 v1)), (1, .d (.int .i64 v2)), (2, .d (.int .i64 v3)), (7, .arr 1024 0 (((v227 ++ ([(TItem.mk v245 1 [113] [(Part.mk 1 (IntKind.i64.wrap (1 + v246)) 0 0 0 0)] v250)]))).length)), (8, .d (.int .i64 v228))], [(1024, some (.arr 62 5 (List.map TItem.D ((v227 ++ ([(TItem.mk v245 1 [113] [(Part.mk 1 (IntKind.i64.wrap (1 + v246)) 0 0 0 0)] v250)]))))))]⟩ (by simp [c590, c613, k618] <;> omega) (by simp [c590, c613, k618] <;> omega) ?_
    refine Walk.inBlock (Walk.region' rfl fun K hK => ?_)
    simp only [go_sem, seval, c590, c613, k618]
    refine hK _ ?_
    clear hK K
    exact Walk.weaken _ (by simp [c590, c613, k618] <;> omega) (by simp [c590, c613, k618] <;> omega) (ih584 _ (cont_elim hx))
  refine Walk.exit rfl ?_
  obtain ⟨z620, e621, hx⟩ := exit_elim hx
  rw [hr585 z620 e621] at hx
  refine Walk.seq (Walk.region' rfl fun K hK => ?_)
  simp only [go_sem, seval, c590]
  refine hK _ ?_
  clear hK K
  refine Walk.seq ?_
  refine Walk.weaken ⟨[(7, .arr 1024 0 v227.length), (11, .box 11 0)], [(11, some (.box [.d (.int .i64 0), .d (.int .i64 12), .d (.int .i64 0), .d (.int .i64 100), .nils, .nils, .nils, .nils, .d (.int .i64 0)])), (1024, some (.arr 62 5 (List.map TItem.D v227)))]⟩ (by simp [c590] <;> omega) (by simp [c590] <;> omega) ?_
  refine Walk.freeze 1024 62 5 (List.map TItem.D v227) [(7, .d (.sl (List.map TItem.D v227))), (11, .box 11 0)] [(11, some (.box [.d (.int .i64 0), .d (.int .i64 12), .d (.int .i64 0), .d (.int .i64 100), .nils, .nils, .nils, .nils, .d (.int .i64 0)]))] (by simp) (by simp) (by simp) ?_
  refine Walk.region' rfl fun K hK => ?_
  obtain ⟨v255, h622, hx⟩ := bind_elim hx
  have w623 := ((blueprint_Rows_ok 0 12 0 100 [] [] [] [] 0 v227 _ h622).swap 2000 1027)
  simp only [renE, renL, AV.ren, AV.rens, AObj.ren, swp, Option.map_some, reduceIte, Nat.reduceEqDiff] at w623
  simp only [go_sem, seval, c590]
  refine VCl.pure rfl (by simp only [go_sem, seval, c590]; try simp) (w623) (by simp only [go_sem, seval, c590]; try simp) (by simp only [go_sem, seval, c590]; try simp) (by simp only [go_sem, seval, c590]; try simp) (by simp only [go_sem, seval, c590]; try simp) (by simp only [go_sem, seval, c590]; try simp) (by simp only [go_sem, seval, c590]; try simp) ?_
  simp only [go_sem, seval, c590]
  refine hK _ ?_
  clear hK K
  refine Walk.weaken ⟨[(7, .d (.sl (List.map TItem.D v227))), (11, .box 11 0), (12, .arr 1027 0 v255.1.length), (13, .d (.int .i64 v255.2))], [(11, some (.box [.d (.int .i64 0), .d (.int .i64 12), .d (.int .i64 0), .d (.int .i64 100), .nils, .nils, .nils, .nils, .d (.int .i64 0)])), (1027, some (.arr 32 3 (List.map Row.D v255.1)))]⟩ (by simp [c590] <;> omega) (by simp [c590] <;> omega) ?_
  refine Walk.seq (Walk.region' rfl fun K hK => ?_)
  obtain ⟨v256, h624, hx⟩ := bind_elim hx
  have w625 := ((ref08_Rows_ok 0 12 0 100 [] [] [] [] 0 v227 _ h624).swap 2000 1028)
  simp only [renE, renL, AV.ren, AV.rens, AObj.ren, swp, Option.map_some, reduceIte, Nat.reduceEqDiff] at w625
  simp only [go_sem, seval, c590]
  refine VCl.pure rfl (by simp only [go_sem, seval, c590]; try simp) (w625) (by simp only [go_sem, seval, c590]; try simp) (by simp only [go_sem, seval, c590]; try simp) (by simp only [go_sem, seval, c590]; try simp) (by simp only [go_sem, seval, c590]; try simp) (by simp only [go_sem, seval, c590]; try simp) (by simp only [go_sem, seval, c590]; try simp) ?_
  simp only [go_sem, seval, c590]
  refine hK _ ?_
  clear hK K
  refine Walk.weaken ⟨[(12, .arr 1027 0 v255.1.length), (13, .d (.int .i64 v255.2)), (14, .arr 1028 0 v256.1.length), (15, .d (.int .i64 v256.2))], [(1027, some (.arr 32 3 (List.map Row.D v255.1))), (1028, some (.arr 32 3 (List.map Row.D v256.1)))]⟩ (by simp [c590] <;> omega) (by simp [c590] <;> omega) ?_
  refine Walk.seq (Walk.region' rfl fun K hK => ?_)
  obtain ⟨v257, h626, hx⟩ := bind_elim hx
  simp only [go_sem, seval, c590]
  refine VCl.lent rfl (by simp only [go_sem, seval, c590]; try simp) (law08_sameRows_ok v255.1 v256.1 _ h626) (by simp [c590]) (by simp [c590]) (by simp [c590]) (by simp [c590]) (by simp [c590]) (by simp [c590]) (by simp [c590]) ?_
  simp only [go_sem, seval, c590]
  refine VGdO hx (fun g627 hx => ?_) (fun g627 hx => ?_)
  · simp only [go_sem, seval, c590, g627]
    refine VGdO hx (fun g628 hx => ?_) (fun g628 hx => ?_)
    · obtain ⟨v258, h629, hx⟩ := bind_elim hx
      simp only [go_sem, seval, c590, g627, g628]
      refine VCl.pure rfl (by simp only [go_sem, seval, c590, g627, g628]; try simp) (law08_awake_ok _ h629) (by simp only [go_sem, seval, c590, g627, g628]; try simp) (by simp only [go_sem, seval, c590, g627, g628]; try simp) (by simp only [go_sem, seval, c590, g627, g628]; try simp) (by simp only [go_sem, seval, c590, g627, g628]; try simp) (by simp only [go_sem, seval, c590, g627, g628]; try simp) (by simp only [go_sem, seval, c590, g627, g628]; try simp) ?_
      simp only [go_sem, seval, c590, g627, g628]
      refine hK _ ?_
      clear hK K
      obtain rfl := Option.some.inj hx
      exact Walk.ret ⟨by simp [c590, g627, g628], by simp [c590, g627, g628]⟩
    simp only [go_sem, seval, c590, g627, g628]
    refine hK _ ?_
    clear hK K
    obtain rfl := Option.some.inj hx
    exact Walk.ret ⟨by simp [c590, g627, g628], by simp [c590, g627, g628]⟩
  simp only [go_sem, seval, c590, g627]
  refine hK _ ?_
  clear hK K
  obtain rfl := Option.some.inj hx
  exact Walk.ret ⟨by simp [c590, g627], by simp [c590, g627]⟩
end Go.AX

