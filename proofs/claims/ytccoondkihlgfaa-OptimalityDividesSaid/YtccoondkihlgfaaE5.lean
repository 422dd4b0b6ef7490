import Derived.Test.YtccoondkihlgfaaE4
set_option linter.unusedVariables false
set_option linter.unusedSimpArgs false
set_option maxRecDepth 20000
set_option maxHeartbeats 4000000
namespace Go.AX
open Go.Proofs
attribute [local simp] spl_len take_snoc take_cons_drop cons_rep cons_tail iA bA take_set_len idsL_rep idsL_iA idsL_bA idsL_sA idsL_set_mem idsL_sub sA_def List.map_replicate frVs_setS frVs_self frV_arr take_map_len subE subH eget hget upE upV upH upO_refl upO_box upVs freshE freshH freshO AV.ids AV.idsL ids_box ids_arr frE frV_refl frV_arr frH frO_refl frO_box frVs newOk evalA AV.viewXs AV.viewX AV.viewXP AV.viewXPs AV.viewPs AV.viewP AV.flat AV.flatL D.flat arrsOnly flatObjs newNames subOf closedIn allSome dstOk newOrOld avD avDp zv_i64 zv_u8 zv_bool zv_nils zv_nilp zv_str retAV aLoad cut TI.isAgg nlE nlH nlO_refl nlO_box nlVs nlV_refl nlV_nil iD uD bD tD lD List.map_set ti2 ti3 ti4 ti5 ti6 ti7 ti8 ti9 ti10 ti11 ti12 ti13 ti14 ti15 ti16 ti17 ti18 ti19 ti21 ti22 ti23 ti25 ti26 ti27 ti32 ti33 ti34 ti41 ti42 ti50 ti51 ti56 ti60 ti61 ti63 ti64 ti74 ti76 ti89 ti92 ti96 ti97 ti98 ti99 ti100 ti101 ti102 ti104 ti105 ti106 ti107 ti108 Row.D Node.D
attribute [local go_sem] V1_none V1_some V_nil V_move V_assign V_pick V_bin V_un V_extract V_makeFunc V_convert V_nilCheck V_fieldAddr V_field V_load V_store V_indexAddr V_index V_slice V_slice0 V_alloc V_box V_build V_buildSlice V_makeSlice V_len V_min V_max V_append V_copy V_call V_guard VGs_some VG_tt VG_ff VG_tf VG_ft VG_u gslot ok fail po so aNew dstOk freshU addLog_none' addLog_some' St.step putL evalA eget hget argE freshE freshO freshH AV.ids AV.idsL AV.ok1 AV.cells ids_box ids_arr liveBox liveArr isArr isObj isBoxB aPick isNilC aNilEq aBin aUn aExtract aMakeFunc aConvert aNilCheck aFieldAddr aField cut aLen aIndexAddr aMin aMax aIndex bnd isInt aSlice aSlice0 aLoad aAlloc aBox aStore splice aMake aMakeBox aCopy cellsOf cellsOfP updIds newIds zv_i64 zv_u8 zv_bool zv_nils zv_nilp cond_bool cond_int TI.isAgg TK.isSl TK.el okL avDps avDp avD List.map_cons List.map_nil List.append_nil List.nil_append List.cons_append List.length_cons List.length_nil List.take_succ_cons List.take_zero List.drop_succ_cons List.drop_zero List.take_nil List.drop_nil List.headD_cons List.getD_cons_zero List.getD_cons_succ List.mem_cons List.not_mem_nil List.getElem?_cons_zero List.getElem?_cons_succ List.toList_toArray Option.getD_some Option.getD_none Option.bind_some Option.bind_none Option.map_some Option.map_none Option.getD Option.toList Nat.zero_add Nat.add_zero Nat.zero_le Nat.le_refl if_true if_false ite_self true_and and_true false_and and_false true_or or_true false_or or_false not_true_eq_false not_false_eq_true ne_eq cond_true cond_false Bool.true_eq_false Bool.false_eq_true forall_const decide_true decide_false implies_true true_implies and_self or_self Nat.succ_ne_zero Int.toNat_natCast Int.natCast_nonneg List.length_map decide_eq_true_eq AV.views AV.view AV.viewPs AV.viewP arrsOnly newNames List.length_append List.append_assoc Bool.not_true Bool.not_false AV.ok2 aBuild fillR fillP aBuildSlice dense elP aAppend esOf esOfP List.forall_mem_cons forall_eq_or_imp forall_eq zD zDp map_take' map_drop' iD uD bD tD lD iD_len uD_len bD_len tD_len lD_len LB Int.cast_ofNat_Int Int.natCast_zero Int.natCast_one head_len all_len List.head?_cons List.head?_nil Bool.not_not eq_self List.take_length zv_str aConv byteOf isByte map_bcell bytes_all str_map cellsEq cellsP AV.kd Bool.and_true Bool.true_and Bool.and_false Bool.false_and spl_map spl_len mkbox_i mkbox_b flat_iD dataL_iA dataL_bA zv_u64 flat_iD' flat_len dataL_tA dataL_ttA spl_mt spl_mtt mkbox_s splice_one take_cons_drop cons_rep cons_tail hd_set hd_set0 List.length_replicate iA bA sA_def List.set_set List.length_set idsL_iA idsL_bA idsL_sA idsL_setE idsL_rep List.append_eq Nat.mul_one ti2 ti3 ti4 ti5 ti6 ti7 ti8 ti9 ti10 ti11 ti12 ti13 ti14 ti15 ti16 ti17 ti18 ti19 ti21 ti22 ti23 ti25 ti26 ti27 ti32 ti33 ti34 ti41 ti42 ti50 ti51 ti56 ti60 ti61 ti63 ti64 ti74 ti76 ti89 ti92 ti96 ti97 ti98 ti99 ti100 ti101 ti102 ti104 ti105 ti106 ti107 ti108 Row.D Node.D Row.D_len Node.D_len
noncomputable def blueprint_Span_l0 (v1 : List Int) (v4 : List Int) (v23 : Int) (v24 : Int) (v25 : Int) : Option ((Int × Int × Int) ⊕ (Int × Int × Bool)) :=
  bif decide (v25 < (v1.length : Int)) then ((rd v1 v25).bind fun v28 => (rd v4 v25).bind fun v29 => bif decide (v29 = 1) then (contO ((IntKind.i64.wrap (v23 + v28), IntKind.i64.wrap (v24 + v28), IntKind.i64.wrap (v25 + 1)) : Int × Int × Int)) else (bif decide (v29 = (-1)) then (contO ((IntKind.i64.wrap (v23 + (min v28 0)), IntKind.i64.wrap (v24 + (max v28 0)), IntKind.i64.wrap (v25 + 1)) : Int × Int × Int)) else (bif decide (v29 = 0) then (contO ((v23, v24, IntKind.i64.wrap (v25 + 1)) : Int × Int × Int)) else (exitO (some ((0, 0, false) : Int × Int × Bool)))))) else (exitO (some ((v23, v24, true) : Int × Int × Bool)))
noncomputable def blueprint_Span (v1 : List Int) (v2 : Int) (v3 : Int) (v4 : List Int) : Option (Int × Int × Bool) :=
  bif decide (¬ (v4.length : Int) = (v1.length : Int)) then (some ((0, 0, false) : Int × Int × Bool)) else (bif decide ((v4.length : Int) > 12) then (some ((0, 0, false) : Int × Int × Bool)) else ((blueprint_small v1).bind fun v20 => bif !v20 then (some ((0, 0, false) : Int × Int × Bool)) else (iter (fun g : Int × Int × Int => blueprint_Span_l0 v1 v4 g.1 g.2.1 g.2.2) (0, 0, 0))))
theorem blueprint_Span_ok (v1 : List Int) (v2 : Int) (v3 : Int) (v4 : List Int) (r : Int × Int × Bool) (hx : blueprint_Span v1 v2 v3 v4 = some r) :
    ACalls Try.prog 54 [.agg [.d (.sl (List.map iD v1)), .d (.int .i64 v2), .d (.int .i64 v3)], .d (.sl (List.map iD v4))] [] (.tup [.d (.int .i64 r.1), .d (.int .i64 r.2.1), .d (.bool r.2.2)]) [] := by
  refine ACalls.of_sem (n := 61) 0 [4, 5, 6] (fn := Try.f54) Try.func54 rfl rfl (.three rfl) rfl (by simp) (by intro i; simp only [hget]; (repeat' split) <;> simp <;> omega) ?_
  unfold blueprint_Span at hx
  refine Walk.seq (Walk.region' rfl fun K hK => ?_)
  simp only [go_sem, seval]
  refine hK _ ?_
  clear hK K
  refine Walk.seq (Walk.seq (Walk.region' rfl fun K hK => ?_))
  simp only [go_sem, seval]
  refine VGdO hx (fun g57 hx => ?_) (fun g57 hx => ?_)
  · simp only [go_sem, seval, g57]
    refine hK _ ?_
    clear hK K
    refine Walk.condT rfl (Walk.seq (Walk.region' rfl fun K hK => ?_))
    simp only [go_sem, seval, g57]
    refine hK _ ?_
    clear hK K
    obtain rfl := Option.some.inj hx
    exact Walk.ret ⟨by simp [g57], by simp [g57]⟩
  simp only [go_sem, seval, g57]
  refine VGdO hx (fun g58 hx => ?_) (fun g58 hx => ?_)
  · simp only [go_sem, seval, g57, g58]
    refine hK _ ?_
    clear hK K
    refine Walk.condT rfl (Walk.seq (Walk.region' rfl fun K hK => ?_))
    simp only [go_sem, seval, g57, g58]
    refine hK _ ?_
    clear hK K
    obtain rfl := Option.some.inj hx
    exact Walk.ret ⟨by simp [g57, g58], by simp [g57, g58]⟩
  obtain ⟨v20, h59, hx⟩ := bind_elim hx
  simp only [go_sem, seval, g57, g58]
  refine VCl.pure rfl (by simp only [go_sem, seval, g57, g58]; try simp) (blueprint_small_ok v1 _ h59) (by simp only [go_sem, seval, g57, g58]; try simp) (by simp only [go_sem, seval, g57, g58]; try simp) (by simp only [go_sem, seval, g57, g58]; try simp) (by simp only [go_sem, seval, g57, g58]; try simp) (by simp only [go_sem, seval, g57, g58]; try simp) (by simp only [go_sem, seval, g57, g58]; try simp) ?_
  simp only [go_sem, seval, g57, g58]
  refine hK _ ?_
  clear hK K
  refine Walk.condO rfl hx (fun c61 hx => ?_) (fun c61 hx => ?_)
  · refine Walk.seq (Walk.region' rfl fun K hK => ?_)
    simp only [go_sem, seval, g57, g58, c61]
    refine hK _ ?_
    clear hK K
    obtain rfl := Option.some.inj hx
    exact Walk.ret ⟨by simp [g57, g58, c61], by simp [g57, g58, c61]⟩
  refine Walk.skip (Walk.seq (Walk.seq (Walk.region' rfl fun K hK => ?_)))
  simp only [go_sem, seval, g57, g58, c61]
  refine hK _ ?_
  clear hK K
  refine Walk.block (Walk.loop ?_)
  refine Walk.weaken ⟨[(1, .d (.sl (List.map iD v4))), (4, .d (.int .i64 0)), (5, .d (.int .i64 0)), (27, .d (.sl (List.map iD v1))), (28, .d (.int .i64 (v1.length : Int))), (29, .d (.int .i64 0))], []⟩ (by simp [g57, g58, c61] <;> omega) (by simp [g57, g58, c61] <;> omega) ?_
  refine Walk.iter (σ := Int × Int × Int) (fun g => ⟨[(1, .d (.sl (List.map iD v4))), (4, .d (.int .i64 g.1)), (5, .d (.int .i64 g.2.1)), (27, .d (.sl (List.map iD v1))), (28, .d (.int .i64 (v1.length : Int))), (29, .d (.int .i64 g.2.2))], []⟩) (fun g : Int × Int × Int => blueprint_Span_l0 v1 v4 g.1 g.2.1 g.2.2) _ (fun g y107 hx ih88 hr89 => ?_) (0, 0, 0) hx
  obtain ⟨v23, v24, v25⟩ := g
  unfold blueprint_Span_l0 at hx
  try dsimp only at hx ⊢
  refine Walk.seq (Walk.region' rfl fun K hK => ?_)
  simp only [go_sem, seval, g57, g58, c61]
  refine hK _ ?_
  clear hK K
  refine Walk.seq (Walk.condO rfl hx (fun c91 hx => ?_) (fun c91 hx => ?_))
  · refine Walk.skip (Walk.seq (Walk.block (Walk.seq (Walk.region' rfl fun K hK => ?_))))
    obtain ⟨v28, r92, a93, b94, c95, hx⟩ := rd_elim hx
    simp only [go_sem, seval, g57, g58, c61, c91, a93, b94, c95]
    repeat refine And.intro (by first | omega | (simp; done) | (simp; omega)) ?_
    refine hK _ ?_
    clear hK K
    refine Walk.seq (Walk.region' rfl fun K hK => ?_)
    obtain ⟨v29, r96, a97, b98, c99, hx⟩ := rd_elim hx
    simp only [go_sem, seval, g57, g58, c61, c91, a93, b94, c95, a97, b98, c99]
    repeat refine And.intro (by first | omega | (simp; done) | (simp; omega)) ?_
    refine hK _ ?_
    clear hK K
    refine Walk.block (Walk.seq (Walk.region' rfl fun K hK => ?_))
    simp only [go_sem, seval, g57, g58, c61, c91, a93, b94, c95, a97, b98, c99]
    refine hK _ ?_
    clear hK K
    refine Walk.condO rfl hx (fun c100 hx => ?_) (fun c100 hx => ?_)
    · refine Walk.region' rfl fun K hK => ?_
      simp only [go_sem, seval, g57, g58, c61, c91, a93, b94, c95, a97, b98, c99, c100]
      refine hK _ ?_
      clear hK K
      refine Walk.inBlock (Walk.inBlock (Walk.region' rfl fun K hK => ?_))
      simp only [go_sem, seval, g57, g58, c61, c91, a93, b94, c95, a97, b98, c99, c100]
      refine hK _ ?_
      clear hK K
      exact Walk.weaken _ (by simp [g57, g58, c61, c91, a93, b94, c95, a97, b98, c99, c100] <;> omega) (by simp [g57, g58, c61, c91, a93, b94, c95, a97, b98, c99, c100] <;> omega) (ih88 _ (cont_elim hx))
    refine Walk.seq (Walk.region' rfl fun K hK => ?_)
    simp only [go_sem, seval, g57, g58, c61, c91, a93, b94, c95, a97, b98, c99, c100]
    refine hK _ ?_
    clear hK K
    refine Walk.condO rfl hx (fun c101 hx => ?_) (fun c101 hx => ?_)
    · refine Walk.region' rfl fun K hK => ?_
      simp only [go_sem, seval, g57, g58, c61, c91, a93, b94, c95, a97, b98, c99, c100, c101]
      refine hK _ ?_
      clear hK K
      refine Walk.inBlock (Walk.inBlock (Walk.region' rfl fun K hK => ?_))
      simp only [go_sem, seval, g57, g58, c61, c91, a93, b94, c95, a97, b98, c99, c100, c101]
      refine hK _ ?_
      clear hK K
      exact Walk.weaken _ (by simp [g57, g58, c61, c91, a93, b94, c95, a97, b98, c99, c100, c101] <;> omega) (by simp [g57, g58, c61, c91, a93, b94, c95, a97, b98, c99, c100, c101] <;> omega) (ih88 _ (cont_elim hx))
    refine Walk.seq (Walk.region' rfl fun K hK => ?_)
    simp only [go_sem, seval, g57, g58, c61, c91, a93, b94, c95, a97, b98, c99, c100, c101]
    refine hK _ ?_
    clear hK K
    refine Walk.condO rfl hx (fun c102 hx => ?_) (fun c102 hx => ?_)
    · refine Walk.skip (Walk.inBlock (Walk.inBlock (Walk.region' rfl fun K hK => ?_)))
      simp only [go_sem, seval, g57, g58, c61, c91, a93, b94, c95, a97, b98, c99, c100, c101, c102]
      refine hK _ ?_
      clear hK K
      exact Walk.weaken _ (by simp [g57, g58, c61, c91, a93, b94, c95, a97, b98, c99, c100, c101, c102] <;> omega) (by simp [g57, g58, c61, c91, a93, b94, c95, a97, b98, c99, c100, c101, c102] <;> omega) (ih88 _ (cont_elim hx))
    refine Walk.seq (Walk.region' rfl fun K hK => ?_)
    simp only [go_sem, seval, g57, g58, c61, c91, a93, b94, c95, a97, b98, c99, c100, c101, c102]
    refine hK _ ?_
    clear hK K
    obtain ⟨z103, e104, hx⟩ := exit_elim hx
    rw [hr89 z103 e104] at hx
    obtain rfl := Option.some.inj hx
    exact Walk.ret ⟨by simp [g57, g58, c61, c91, a93, b94, c95, a97, b98, c99, c100, c101, c102], by simp [g57, g58, c61, c91, a93, b94, c95, a97, b98, c99, c100, c101, c102]⟩
  refine Walk.exit rfl ?_
  obtain ⟨z105, e106, hx⟩ := exit_elim hx
  rw [hr89 z105 e106] at hx
  refine Walk.seq (Walk.region' rfl fun K hK => ?_)
  simp only [go_sem, seval, g57, g58, c61, c91]
  refine hK _ ?_
  clear hK K
  obtain rfl := Option.some.inj hx
  exact Walk.ret ⟨by simp [g57, g58, c61, c91], by simp [g57, g58, c61, c91]⟩
noncomputable def optimality_Proved_l0 (v3 : List Node) (v2 : List Row) (v29 : List (List Int) × Int) (v1 : List Int) (v36 : Int) (v37 : Bool) (v38 : Int) : Option ((Int × Bool × Int) ⊕ (Int × Bool × Int)) :=
  bif decide (v38 < (v3.length : Int)) then ((rd v3 v38).bind fun v45 => bif decide (v45.Kind = 2) then ((rd v2 v45.Row).bind fun v46 => (rd v29.1 v38).bind fun v47 => (blueprint_Span v46.Coefs v46.Least v46.Most v47).bind fun v48 => bif decide (v48.1 ≤ v46.Most) then (bif decide (v48.2.1 ≥ v46.Least) then (bif decide (v46.Least ≤ v46.Most) then (exitO (some ((0, false, 29) : Int × Bool × Int))) else (contO ((v36, v37, IntKind.i64.wrap (v38 + 1)) : Int × Bool × Int))) else (contO ((v36, v37, IntKind.i64.wrap (v38 + 1)) : Int × Bool × Int))) else (contO ((v36, v37, IntKind.i64.wrap (v38 + 1)) : Int × Bool × Int))) else (bif decide (v45.Kind = 3) then ((rd v29.1 v38).bind fun v49 => (optimality_bound v1 v2 v49 v45.Kind v45.Var v45.Zero v45.One v45.Row v45.Num v45.Den).bind fun v50 => bif !v37 then (contO ((v50, true, IntKind.i64.wrap (v38 + 1)) : Int × Bool × Int)) else (bif decide (v50 < v36) then (contO ((v50, true, IntKind.i64.wrap (v38 + 1)) : Int × Bool × Int)) else (contO ((v36, v37, IntKind.i64.wrap (v38 + 1)) : Int × Bool × Int)))) else (contO ((v36, v37, IntKind.i64.wrap (v38 + 1)) : Int × Bool × Int)))) else (exitO (some ((v36, v37, 0) : Int × Bool × Int)))
noncomputable def optimality_Proved (v1 : List Int) (v2 : List Row) (v3 : List Node) : Option (Int × Bool × Int) :=
  (optimality_States v1 v2 v3).bind fun v29 => bif decide (¬ v29.2 = 0) then (some ((0, false, v29.2) : Int × Bool × Int)) else (iter (fun g : Int × Bool × Int => optimality_Proved_l0 v3 v2 v29 v1 g.1 g.2.1 g.2.2) (0, false, 0))
theorem optimality_Proved_ok (v1 : List Int) (v2 : List Row) (v3 : List Node) (r : Int × Bool × Int) (hx : optimality_Proved v1 v2 v3 = some r) :
    ACalls Try.prog 26 [.agg [.d (.sl (List.map iD v1)), .d (.sl (List.map Row.D v2))], .d (.sl (List.map Node.D v3))] [] (.tup [.d (.int .i64 r.1), .d (.bool r.2.1), .d (.int .i64 r.2.2)]) [] := by
  refine ACalls.of_sem (n := 88) 0 [4, 5, 6] (fn := Try.f26) Try.func26 rfl rfl (.three rfl) rfl (by simp) (by intro i; simp only [hget]; (repeat' split) <;> simp <;> omega) ?_
  unfold optimality_Proved at hx
  refine Walk.seq (Walk.region' rfl fun K hK => ?_)
  simp only [go_sem, seval]
  refine hK _ ?_
  clear hK K
  refine Walk.seq (Walk.region' rfl fun K hK => ?_)
  obtain ⟨v29, h88, hx⟩ := bind_elim hx
  simp only [go_sem, seval]
  refine VCl.pure rfl (by simp only [go_sem, seval]; try simp) (optimality_States_ok v1 v2 v3 _ h88) (by simp only [go_sem, seval]; try simp) (by simp only [go_sem, seval]; try simp) (by simp only [go_sem, seval]; try simp) (by simp only [go_sem, seval]; try simp) (by simp only [go_sem, seval]; try simp) (by simp only [go_sem, seval]; try simp) ?_
  simp only [go_sem, seval]
  refine hK _ ?_
  clear hK K
  refine Walk.seq (Walk.seq (Walk.region' rfl fun K hK => ?_))
  simp only [go_sem, seval]
  refine hK _ ?_
  clear hK K
  refine Walk.condO rfl hx (fun c91 hx => ?_) (fun c91 hx => ?_)
  · refine Walk.seq (Walk.region' rfl fun K hK => ?_)
    simp only [go_sem, seval, c91]
    refine hK _ ?_
    clear hK K
    obtain rfl := Option.some.inj hx
    exact Walk.ret ⟨by simp [c91], by simp [c91]⟩
  refine Walk.skip (Walk.seq (Walk.seq (Walk.region' rfl fun K hK => ?_)))
  simp only [go_sem, seval, c91]
  refine hK _ ?_
  clear hK K
  refine Walk.block (Walk.loop ?_)
  refine Walk.weaken ⟨[(2, .box 2 0), (4, .d (.int .i64 0)), (5, .d (.bool false)), (7, .d (.sl (List.map (lD iD) v29.1))), (24, .d (.sl (List.map Node.D v3))), (25, .d (.int .i64 (v3.length : Int))), (26, .d (.int .i64 0))], [(2, some (.box [.d (.sl (List.map iD v1)), .d (.sl (List.map Row.D v2))]))]⟩ (by simp [c91] <;> omega) (by simp [c91] <;> omega) ?_
  refine Walk.iter (σ := Int × Bool × Int) (fun g => ⟨[(2, .box 2 0), (4, .d (.int .i64 g.1)), (5, .d (.bool g.2.1)), (7, .d (.sl (List.map (lD iD) v29.1))), (24, .d (.sl (List.map Node.D v3))), (25, .d (.int .i64 (v3.length : Int))), (26, .d (.int .i64 g.2.2))], [(2, some (.box [.d (.sl (List.map iD v1)), .d (.sl (List.map Row.D v2))]))]⟩) (fun g : Int × Bool × Int => optimality_Proved_l0 v3 v2 v29 v1 g.1 g.2.1 g.2.2) _ (fun g y177 hx ih144 hr145 => ?_) (0, false, 0) hx
  obtain ⟨v36, v37, v38⟩ := g
  unfold optimality_Proved_l0 at hx
  try dsimp only at hx ⊢
  refine Walk.seq (Walk.region' rfl fun K hK => ?_)
  simp only [go_sem, seval, c91]
  refine hK _ ?_
  clear hK K
  refine Walk.seq (Walk.condO rfl hx (fun c147 hx => ?_) (fun c147 hx => ?_))
  · refine Walk.skip (Walk.seq (Walk.block (Walk.seq (Walk.region' rfl fun K hK => ?_))))
    obtain ⟨v45, r148, a149, b150, c151, hx⟩ := rd_elim hx
    simp only [go_sem, seval, c91, c147, a149, b150, c151]
    repeat refine And.intro (by first | omega | (simp; done) | (simp; omega)) ?_
    refine hK _ ?_
    clear hK K
    refine Walk.seq (Walk.region' rfl fun K hK => ?_)
    simp only [go_sem, seval, c91, c147, a149, b150, c151]
    refine hK _ ?_
    clear hK K
    refine Walk.block (Walk.seq (Walk.region' rfl fun K hK => ?_))
    simp only [go_sem, seval, c91, c147, a149, b150, c151]
    refine hK _ ?_
    clear hK K
    refine Walk.condO rfl hx (fun c152 hx => ?_) (fun c152 hx => ?_)
    · refine Walk.seq (Walk.region' rfl fun K hK => ?_)
      obtain ⟨v46, r153, a154, b155, c156, hx⟩ := rd_elim hx
      simp only [go_sem, seval, c91, c147, a149, b150, c151, c152, a154, b155, c156]
      repeat refine And.intro (by first | omega | (simp; done) | (simp; omega)) ?_
      refine hK _ ?_
      clear hK K
      refine Walk.seq (Walk.drawn' rfl mixed fun K hK => ?_)
      obtain ⟨v47, r157, a158, b159, c160, hx⟩ := rd_elim hx
      obtain ⟨v48, h161, hx⟩ := bind_elim hx
      simp only [go_sem, seval, c91, c147, a149, b150, c151, c152, a154, b155, c156, a158, b159, c160]
      repeat refine And.intro (by first | omega | (simp; done) | (simp; omega)) ?_
      refine VCl.pure rfl (by simp only [go_sem, seval, c91, c147, a149, b150, c151, c152, a154, b155, c156, a158, b159, c160]; try simp) (blueprint_Span_ok v46.Coefs v46.Least v46.Most v47 _ h161) (by simp only [go_sem, seval, c91, c147, a149, b150, c151, c152, a154, b155, c156, a158, b159, c160]; try simp) (by simp only [go_sem, seval, c91, c147, a149, b150, c151, c152, a154, b155, c156, a158, b159, c160]; try simp) (by simp only [go_sem, seval, c91, c147, a149, b150, c151, c152, a154, b155, c156, a158, b159, c160]; try simp) (by simp only [go_sem, seval, c91, c147, a149, b150, c151, c152, a154, b155, c156, a158, b159, c160]; try simp) (by simp only [go_sem, seval, c91, c147, a149, b150, c151, c152, a154, b155, c156, a158, b159, c160]; try simp) (by simp only [go_sem, seval, c91, c147, a149, b150, c151, c152, a154, b155, c156, a158, b159, c160]; try simp) ?_
      simp only [go_sem, seval, c91, c147, a149, b150, c151, c152, a154, b155, c156, a158, b159, c160]
      refine hK _ _ (by kernel_rfl) (by simp [c91, c147, a149, b150, c151, c152, a154, b155, c156, a158, b159, c160]) ?_
      clear hK K
      refine Walk.seq (Walk.region' rfl fun K hK => ?_)
      simp only [go_sem, seval, c91, c147, a149, b150, c151, c152, a154, b155, c156, a158, b159, c160]
      refine VGdO hx (fun g162 hx => ?_) (fun g162 hx => ?_)
      · simp only [go_sem, seval, c91, c147, a149, b150, c151, c152, a154, b155, c156, a158, b159, c160, g162]
        refine VGdO hx (fun g163 hx => ?_) (fun g163 hx => ?_)
        · simp only [go_sem, seval, c91, c147, a149, b150, c151, c152, a154, b155, c156, a158, b159, c160, g162, g163]
          refine hK _ ?_
          clear hK K
          refine Walk.condO rfl hx (fun c164 hx => ?_) (fun c164 hx => ?_)
          · refine Walk.seq (Walk.region' rfl fun K hK => ?_)
            simp only [go_sem, seval, c91, c147, a149, b150, c151, c152, a154, b155, c156, a158, b159, c160, g162, g163, c164]
            refine hK _ ?_
            clear hK K
            obtain ⟨z165, e166, hx⟩ := exit_elim hx
            rw [hr145 z165 e166] at hx
            obtain rfl := Option.some.inj hx
            exact Walk.ret ⟨by simp [c91, c147, a149, b150, c151, c152, a154, b155, c156, a158, b159, c160, g162, g163, c164], by simp [c91, c147, a149, b150, c151, c152, a154, b155, c156, a158, b159, c160, g162, g163, c164]⟩
          refine Walk.skip (Walk.inBlock (Walk.inBlock (Walk.region' rfl fun K hK => ?_)))
          simp only [go_sem, seval, c91, c147, a149, b150, c151, c152, a154, b155, c156, a158, b159, c160, g162, g163, c164]
          refine hK _ ?_
          clear hK K
          exact Walk.weaken _ (by simp [c91, c147, a149, b150, c151, c152, a154, b155, c156, a158, b159, c160, g162, g163, c164] <;> omega) (by simp [c91, c147, a149, b150, c151, c152, a154, b155, c156, a158, b159, c160, g162, g163, c164] <;> omega) (ih144 _ (cont_elim hx))
        simp only [go_sem, seval, c91, c147, a149, b150, c151, c152, a154, b155, c156, a158, b159, c160, g162, g163]
        refine hK _ ?_
        clear hK K
        refine Walk.condF rfl (Walk.skip (Walk.inBlock (Walk.inBlock (Walk.region' rfl fun K hK => ?_))))
        simp only [go_sem, seval, c91, c147, a149, b150, c151, c152, a154, b155, c156, a158, b159, c160, g162, g163]
        refine hK _ ?_
        clear hK K
        exact Walk.weaken _ (by simp [c91, c147, a149, b150, c151, c152, a154, b155, c156, a158, b159, c160, g162, g163] <;> omega) (by simp [c91, c147, a149, b150, c151, c152, a154, b155, c156, a158, b159, c160, g162, g163] <;> omega) (ih144 _ (cont_elim hx))
      simp only [go_sem, seval, c91, c147, a149, b150, c151, c152, a154, b155, c156, a158, b159, c160, g162]
      refine hK _ ?_
      clear hK K
      refine Walk.condF rfl (Walk.skip (Walk.inBlock (Walk.inBlock (Walk.region' rfl fun K hK => ?_))))
      simp only [go_sem, seval, c91, c147, a149, b150, c151, c152, a154, b155, c156, a158, b159, c160, g162]
      refine hK _ ?_
      clear hK K
      exact Walk.weaken _ (by simp [c91, c147, a149, b150, c151, c152, a154, b155, c156, a158, b159, c160, g162] <;> omega) (by simp [c91, c147, a149, b150, c151, c152, a154, b155, c156, a158, b159, c160, g162] <;> omega) (ih144 _ (cont_elim hx))
    refine Walk.seq (Walk.region' rfl fun K hK => ?_)
    simp only [go_sem, seval, c91, c147, a149, b150, c151, c152]
    refine hK _ ?_
    clear hK K
    refine Walk.condO rfl hx (fun c167 hx => ?_) (fun c167 hx => ?_)
    · refine Walk.seq (Walk.drawn' rfl mixed fun K hK => ?_)
      obtain ⟨v49, r168, a169, b170, c171, hx⟩ := rd_elim hx
      obtain ⟨v50, h172, hx⟩ := bind_elim hx
      simp only [go_sem, seval, c91, c147, a149, b150, c151, c152, c167, a169, b170, c171]
      repeat refine And.intro (by first | omega | (simp; done) | (simp; omega)) ?_
      refine VCl.pure rfl (by simp only [go_sem, seval, c91, c147, a149, b150, c151, c152, c167, a169, b170, c171]; try simp) (optimality_bound_ok v1 v2 v49 v45.Kind v45.Var v45.Zero v45.One v45.Row v45.Num v45.Den _ h172) (by simp only [go_sem, seval, c91, c147, a149, b150, c151, c152, c167, a169, b170, c171]; try simp) (by simp only [go_sem, seval, c91, c147, a149, b150, c151, c152, c167, a169, b170, c171]; try simp) (by simp only [go_sem, seval, c91, c147, a149, b150, c151, c152, c167, a169, b170, c171]; try simp) (by simp only [go_sem, seval, c91, c147, a149, b150, c151, c152, c167, a169, b170, c171]; try simp) (by simp only [go_sem, seval, c91, c147, a149, b150, c151, c152, c167, a169, b170, c171]; try simp) (by simp only [go_sem, seval, c91, c147, a149, b150, c151, c152, c167, a169, b170, c171]; try simp) ?_
      simp only [go_sem, seval, c91, c147, a149, b150, c151, c152, c167, a169, b170, c171]
      refine hK _ _ (by kernel_rfl) (by simp [c91, c147, a149, b150, c151, c152, c167, a169, b170, c171]) ?_
      clear hK K
      refine Walk.seq (Walk.region' rfl fun K hK => ?_)
      simp only [go_sem, seval, c91, c147, a149, b150, c151, c152, c167, a169, b170, c171]
      refine VGdO hx (fun g173 hx => ?_) (fun g173 hx => ?_)
      · simp only [go_sem, seval, c91, c147, a149, b150, c151, c152, c167, a169, b170, c171, g173]
        refine hK _ ?_
        clear hK K
        refine Walk.condT rfl (Walk.region' rfl fun K hK => ?_)
        simp only [go_sem, seval, c91, c147, a149, b150, c151, c152, c167, a169, b170, c171, g173]
        refine hK _ ?_
        clear hK K
        refine Walk.inBlock (Walk.inBlock (Walk.region' rfl fun K hK => ?_))
        simp only [go_sem, seval, c91, c147, a149, b150, c151, c152, c167, a169, b170, c171, g173]
        refine hK _ ?_
        clear hK K
        exact Walk.weaken _ (by simp [c91, c147, a149, b150, c151, c152, c167, a169, b170, c171, g173] <;> omega) (by simp [c91, c147, a149, b150, c151, c152, c167, a169, b170, c171, g173] <;> omega) (ih144 _ (cont_elim hx))
      simp only [go_sem, seval, c91, c147, a149, b150, c151, c152, c167, a169, b170, c171, g173]
      refine hK _ ?_
      clear hK K
      refine Walk.condO rfl hx (fun c174 hx => ?_) (fun c174 hx => ?_)
      · refine Walk.region' rfl fun K hK => ?_
        simp only [go_sem, seval, c91, c147, a149, b150, c151, c152, c167, a169, b170, c171, g173, c174]
        refine hK _ ?_
        clear hK K
        refine Walk.inBlock (Walk.inBlock (Walk.region' rfl fun K hK => ?_))
        simp only [go_sem, seval, c91, c147, a149, b150, c151, c152, c167, a169, b170, c171, g173, c174]
        refine hK _ ?_
        clear hK K
        exact Walk.weaken _ (by simp [c91, c147, a149, b150, c151, c152, c167, a169, b170, c171, g173, c174] <;> omega) (by simp [c91, c147, a149, b150, c151, c152, c167, a169, b170, c171, g173, c174] <;> omega) (ih144 _ (cont_elim hx))
      refine Walk.skip (Walk.inBlock (Walk.inBlock (Walk.region' rfl fun K hK => ?_)))
      simp only [go_sem, seval, c91, c147, a149, b150, c151, c152, c167, a169, b170, c171, g173, c174]
      refine hK _ ?_
      clear hK K
      exact Walk.weaken _ (by simp [c91, c147, a149, b150, c151, c152, c167, a169, b170, c171, g173, c174] <;> omega) (by simp [c91, c147, a149, b150, c151, c152, c167, a169, b170, c171, g173, c174] <;> omega) (ih144 _ (cont_elim hx))
    refine Walk.skip (Walk.inBlock (Walk.inBlock (Walk.region' rfl fun K hK => ?_)))
    simp only [go_sem, seval, c91, c147, a149, b150, c151, c152, c167]
    refine hK _ ?_
    clear hK K
    exact Walk.weaken _ (by simp [c91, c147, a149, b150, c151, c152, c167] <;> omega) (by simp [c91, c147, a149, b150, c151, c152, c167] <;> omega) (ih144 _ (cont_elim hx))
  refine Walk.exit rfl ?_
  obtain ⟨z175, e176, hx⟩ := exit_elim hx
  rw [hr145 z175 e176] at hx
  refine Walk.seq (Walk.region' rfl fun K hK => ?_)
  simp only [go_sem, seval, c91, c147]
  refine hK _ ?_
  clear hK K
  obtain rfl := Option.some.inj hx
  exact Walk.ret ⟨by simp [c91, c147], by simp [c91, c147]⟩
noncomputable def optimality_Check_j0 (v1 : List Int) (v2 : List Row) (v6 : List Node) (v5 : Int) (v18 : Bool) : Option (Int) :=
  (optimality_Proved v1 v2 v6).bind fun v19 => bif decide (¬ v19.2.2 = 0) then (some (v19.2.2 : Int)) else (bif v18 then (bif !v19.2.1 then (some (30 : Int)) else (bif decide (v19.1 < v5) then (some (30 : Int)) else (some (0 : Int)))) else (bif v19.2.1 then (some (30 : Int)) else (some (0 : Int))))
noncomputable def optimality_Check (v1 : List Int) (v2 : List Row) (v3 : Bool) (v4 : List Int) (v5 : Int) (v6 : List Node) : Option (Int) :=
  (blueprint_Valid v1 v2).bind fun v15 => bif !v15 then (some (1 : Int)) else ((blueprint_Cost v1 v2 v4).bind fun v16 => bif v3 then ((blueprint_Meets v1 v2 v4).bind fun v20 => bif !v20 then (some (10 : Int)) else (bif decide (¬ v16.1 = v5) then (some (10 : Int)) else (optimality_Check_j0 v1 v2 v6 v5 true))) else (bif decide ((v4.length : Int) > 0) then (some (10 : Int)) else (bif decide (¬ v5 = 0) then (some (10 : Int)) else (optimality_Check_j0 v1 v2 v6 v5 false))))
theorem optimality_Check_ok (v1 : List Int) (v2 : List Row) (v3 : Bool) (v4 : List Int) (v5 : Int) (v6 : List Node) (r : Int) (hx : optimality_Check v1 v2 v3 v4 v5 v6 = some r) :
    ACalls Try.prog 31 [.agg [.d (.sl (List.map iD v1)), .d (.sl (List.map Row.D v2))], .agg [.d (.bool v3), .d (.sl (List.map iD v4)), .d (.int .i64 v5), .d (.sl (List.map Node.D v6))]] [] (.d (.int .i64 r)) [] := by
  refine ACalls.of_sem (n := 82) 0 [4] (fn := Try.f31) Try.func31 rfl rfl (.one rfl) rfl (by simp) (by intro i; simp only [hget]; (repeat' split) <;> simp <;> omega) ?_
  unfold optimality_Check at hx
  refine Walk.seq (Walk.region' rfl fun K hK => ?_)
  simp only [go_sem, seval]
  refine hK _ ?_
  clear hK K
  refine Walk.seq (Walk.seq (Walk.region' rfl fun K hK => ?_))
  obtain ⟨v15, h23, hx⟩ := bind_elim hx
  simp only [go_sem, seval]
  refine VCl.pure rfl (by simp only [go_sem, seval]; try simp) (blueprint_Valid_ok v1 v2 _ h23) (by simp only [go_sem, seval]; try simp) (by simp only [go_sem, seval]; try simp) (by simp only [go_sem, seval]; try simp) (by simp only [go_sem, seval]; try simp) (by simp only [go_sem, seval]; try simp) (by simp only [go_sem, seval]; try simp) ?_
  simp only [go_sem, seval]
  refine hK _ ?_
  clear hK K
  refine Walk.condO rfl hx (fun c25 hx => ?_) (fun c25 hx => ?_)
  · refine Walk.seq (Walk.region' rfl fun K hK => ?_)
    simp only [go_sem, seval, c25]
    refine hK _ ?_
    clear hK K
    obtain rfl := Option.some.inj hx
    exact Walk.ret ⟨by simp [c25], by simp [c25]⟩
  refine Walk.skip (Walk.seq (Walk.region' rfl fun K hK => ?_))
  obtain ⟨v16, h26, hx⟩ := bind_elim hx
  simp only [go_sem, seval, c25]
  refine VCl.pure rfl (by simp only [go_sem, seval, c25]; try simp) (blueprint_Cost_ok v1 v2 v4 _ h26) (by simp only [go_sem, seval, c25]; try simp) (by simp only [go_sem, seval, c25]; try simp) (by simp only [go_sem, seval, c25]; try simp) (by simp only [go_sem, seval, c25]; try simp) (by simp only [go_sem, seval, c25]; try simp) (by simp only [go_sem, seval, c25]; try simp) ?_
  simp only [go_sem, seval, c25]
  refine hK _ ?_
  clear hK K
  refine Walk.seq (Walk.join (G := Bool) (fun g => ⟨[(2, .box 2 0), (3, .box 3 0)], [(2, some (.box [.d (.sl (List.map iD v1)), .d (.sl (List.map Row.D v2))])), (3, some (.box [.d (.bool g), .d (.sl (List.map iD v4)), .d (.int .i64 v5), .d (.sl (List.map Node.D v6))]))]⟩) (fun g => optimality_Check_j0 v1 v2 v6 v5 g) hx (fun v18 hx => ?_) (fun fin33 => ?_))
  · unfold optimality_Check_j0 at hx
    try dsimp only at hx ⊢
    refine Walk.seq (Walk.region' rfl fun K hK => ?_)
    obtain ⟨v19, h34, hx⟩ := bind_elim hx
    simp only [go_sem, seval, c25]
    refine VCl.pure rfl (by simp only [go_sem, seval, c25]; try simp) (optimality_Proved_ok v1 v2 v6 _ h34) (by simp only [go_sem, seval, c25]; try simp) (by simp only [go_sem, seval, c25]; try simp) (by simp only [go_sem, seval, c25]; try simp) (by simp only [go_sem, seval, c25]; try simp) (by simp only [go_sem, seval, c25]; try simp) (by simp only [go_sem, seval, c25]; try simp) ?_
    simp only [go_sem, seval, c25]
    refine hK _ ?_
    clear hK K
    refine Walk.seq (Walk.seq (Walk.region' rfl fun K hK => ?_))
    simp only [go_sem, seval, c25]
    refine hK _ ?_
    clear hK K
    refine Walk.condO rfl hx (fun c37 hx => ?_) (fun c37 hx => ?_)
    · refine Walk.seq (Walk.region' rfl fun K hK => ?_)
      simp only [go_sem, seval, c25, c37]
      refine hK _ ?_
      clear hK K
      obtain rfl := Option.some.inj hx
      exact Walk.ret ⟨by simp [c25, c37], by simp [c25, c37]⟩
    refine Walk.skip (Walk.seq (Walk.seq (Walk.region' rfl fun K hK => ?_)))
    simp only [go_sem, seval, c25, c37]
    refine VGdO hx (fun g38 hx => ?_) (fun g38 hx => ?_)
    · simp only [go_sem, seval, c25, c37, g38]
      refine VGdO hx (fun g39 hx => ?_) (fun g39 hx => ?_)
      · simp only [go_sem, seval, c25, c37, g38, g39]
        refine hK _ ?_
        clear hK K
        refine Walk.condT rfl (Walk.seq (Walk.region' rfl fun K hK => ?_))
        simp only [go_sem, seval, c25, c37, g38, g39]
        refine hK _ ?_
        clear hK K
        obtain rfl := Option.some.inj hx
        exact Walk.ret ⟨by simp [c25, c37, g38, g39], by simp [c25, c37, g38, g39]⟩
      simp only [go_sem, seval, c25, c37, g38, g39]
      refine VGdO hx (fun g40 hx => ?_) (fun g40 hx => ?_)
      · simp only [go_sem, seval, c25, c37, g38, g39, g40]
        refine hK _ ?_
        clear hK K
        refine Walk.condT rfl (Walk.seq (Walk.region' rfl fun K hK => ?_))
        simp only [go_sem, seval, c25, c37, g38, g39, g40]
        refine hK _ ?_
        clear hK K
        obtain rfl := Option.some.inj hx
        exact Walk.ret ⟨by simp [c25, c37, g38, g39, g40], by simp [c25, c37, g38, g39, g40]⟩
      simp only [go_sem, seval, c25, c37, g38, g39, g40]
      refine hK _ ?_
      clear hK K
      refine Walk.condF rfl (Walk.skip (Walk.seq (Walk.region' rfl fun K hK => ?_)))
      simp only [go_sem, seval, c25, c37, g38, g39, g40]
      refine hK _ ?_
      clear hK K
      obtain rfl := Option.some.inj hx
      exact Walk.ret ⟨by simp [c25, c37, g38, g39, g40], by simp [c25, c37, g38, g39, g40]⟩
    simp only [go_sem, seval, c25, c37, g38]
    refine hK _ ?_
    clear hK K
    refine Walk.condO rfl hx (fun c41 hx => ?_) (fun c41 hx => ?_)
    · refine Walk.seq (Walk.region' rfl fun K hK => ?_)
      simp only [go_sem, seval, c25, c37, g38, c41]
      refine hK _ ?_
      clear hK K
      obtain rfl := Option.some.inj hx
      exact Walk.ret ⟨by simp [c25, c37, g38, c41], by simp [c25, c37, g38, c41]⟩
    refine Walk.skip (Walk.seq (Walk.region' rfl fun K hK => ?_))
    simp only [go_sem, seval, c25, c37, g38, c41]
    refine hK _ ?_
    clear hK K
    obtain rfl := Option.some.inj hx
    exact Walk.ret ⟨by simp [c25, c37, g38, c41], by simp [c25, c37, g38, c41]⟩
  refine Walk.seq (Walk.region' rfl fun K hK => ?_)
  simp only [go_sem, seval, c25]
  refine VGdO hx (fun g42 hx => ?_) (fun g42 hx => ?_)
  · obtain ⟨v20, h43, hx⟩ := bind_elim hx
    simp only [go_sem, seval, c25, g42]
    refine VCl.pure rfl (by simp only [go_sem, seval, c25, g42]; try simp) (blueprint_Meets_ok v1 v2 v4 _ h43) (by simp only [go_sem, seval, c25, g42]; try simp) (by simp only [go_sem, seval, c25, g42]; try simp) (by simp only [go_sem, seval, c25, g42]; try simp) (by simp only [go_sem, seval, c25, g42]; try simp) (by simp only [go_sem, seval, c25, g42]; try simp) (by simp only [go_sem, seval, c25, g42]; try simp) ?_
    simp only [go_sem, seval, c25, g42]
    refine VGdO hx (fun g44 hx => ?_) (fun g44 hx => ?_)
    · simp only [go_sem, seval, c25, g42, g44]
      refine hK _ ?_
      clear hK K
      refine Walk.condT rfl (Walk.seq (Walk.region' rfl fun K hK => ?_))
      simp only [go_sem, seval, c25, g42, g44]
      refine hK _ ?_
      clear hK K
      obtain rfl := Option.some.inj hx
      exact Walk.ret ⟨by simp [c25, g42, g44], by simp [c25, g42, g44]⟩
    simp only [go_sem, seval, c25, g42, g44]
    refine VGdO hx (fun g45 hx => ?_) (fun g45 hx => ?_)
    · simp only [go_sem, seval, c25, g42, g44, g45]
      refine hK _ ?_
      clear hK K
      refine Walk.condT rfl (Walk.seq (Walk.region' rfl fun K hK => ?_))
      simp only [go_sem, seval, c25, g42, g44, g45]
      refine hK _ ?_
      clear hK K
      obtain rfl := Option.some.inj hx
      exact Walk.ret ⟨by simp [c25, g42, g44, g45], by simp [c25, g42, g44, g45]⟩
    simp only [go_sem, seval, c25, g42, g44, g45]
    refine hK _ ?_
    clear hK K
    refine Walk.condF rfl (Walk.skip ?_)
    exact Walk.weaken _ (by simp [c25, g42, g44, g45] <;> omega) (by simp [c25, g42, g44, g45] <;> omega) (fin33 true hx)
  simp only [go_sem, seval, c25, g42]
  refine VGdO hx (fun g46 hx => ?_) (fun g46 hx => ?_)
  · simp only [go_sem, seval, c25, g42, g46]
    refine hK _ ?_
    clear hK K
    refine Walk.condT rfl (Walk.seq (Walk.region' rfl fun K hK => ?_))
    simp only [go_sem, seval, c25, g42, g46]
    refine hK _ ?_
    clear hK K
    obtain rfl := Option.some.inj hx
    exact Walk.ret ⟨by simp [c25, g42, g46], by simp [c25, g42, g46]⟩
  simp only [go_sem, seval, c25, g42, g46]
  refine hK _ ?_
  clear hK K
  refine Walk.condO rfl hx (fun c47 hx => ?_) (fun c47 hx => ?_)
  · refine Walk.seq (Walk.region' rfl fun K hK => ?_)
    simp only [go_sem, seval, c25, g42, g46, c47]
    refine hK _ ?_
    clear hK K
    obtain rfl := Option.some.inj hx
    exact Walk.ret ⟨by simp [c25, g42, g46, c47], by simp [c25, g42, g46, c47]⟩
  refine Walk.skip ?_
  exact Walk.weaken _ (by simp [c25, g42, g46, c47] <;> omega) (by simp [c25, g42, g46, c47] <;> omega) (fin33 false hx)
noncomputable def law09_awake : Option (Bool) :=
  (optimality_Bound [3, 5] ([(Row.mk [1, 1] 1 2)]) [-1, -1] 3 0 0 0 0 5 1).bind fun v5 => bif decide (v5.1 = 3) then (bif v5.2 then ((optimality_Check [3, 5] ([(Row.mk [1, 1] 1 2)]) true [0] 3 [(Node.mk 3 0 0 0 0 3 1)]).bind fun v6 => bif decide (v6 = 0) then ((optimality_Check [3, 5] ([(Row.mk [1, 1] 1 2)]) true [0] 3 [(Node.mk 3 0 0 0 (-1) 0 1)]).bind fun v7 => some (decide (v7 = 30) : Bool)) else (some (false : Bool))) else (some (false : Bool))) else (some (false : Bool))
theorem law09_awake_ok (r : Bool) (hx : law09_awake = some r) :
    ACalls Try.prog 20 [] [] (.d (.bool r)) [] := by
  refine ACalls.of_sem (n := 43) 0 [0] (fn := Try.f20) Try.func20 rfl rfl (.one rfl) rfl (by simp) (by intro i; simp only [hget]; (repeat' split) <;> simp <;> omega) ?_
  unfold law09_awake at hx
  refine Walk.seq (Walk.region' rfl fun K hK => ?_)
  simp only [go_sem, seval]
  refine hK _ ?_
  clear hK K
  refine Walk.seq (Walk.region' rfl fun K hK => ?_)
  simp only [go_sem, seval]
  refine hK _ ?_
  clear hK K
  refine Walk.weaken ⟨[(1, .box 1 0)], [(1, some (.box [.arr 6 0 2, .arr 9 0 1])), (6, some (.arr 3 1 (List.map iD [3, 5]))), (9, some (.arr 64 3 (List.map Row.D ([(Row.mk [1, 1] 1 2)]))))]⟩ (by simp <;> omega) (by simp <;> omega) ?_
  refine Walk.seq (Walk.region' rfl fun K hK => ?_)
  simp only [go_sem, seval]
  refine hK _ ?_
  clear hK K
  refine Walk.weaken ⟨[(1, .box 1 0), (2, .box 2 0)], [(1, some (.box [.arr 6 0 2, .arr 9 0 1])), (2, some (.box [.d (.bool true), .arr 11 0 1, .d (.int .i64 3), .arr 13 0 1])), (6, some (.arr 3 1 (List.map iD [3, 5]))), (9, some (.arr 64 3 (List.map Row.D ([(Row.mk [1, 1] 1 2)])))), (11, some (.arr 3 1 (List.map iD [0]))), (13, some (.arr 33 7 (List.map Node.D [(Node.mk 3 0 0 0 0 3 1)])))]⟩ (by simp <;> omega) (by simp <;> omega) ?_
  refine Walk.seq (Walk.region' rfl fun K hK => ?_)
  obtain ⟨v5, h7, hx⟩ := bind_elim hx
  simp only [go_sem, seval]
  refine VCl.lent rfl (by simp only [go_sem, seval]; try simp) (optimality_Bound_ok [3, 5] ([(Row.mk [1, 1] 1 2)]) [-1, -1] 3 0 0 0 0 5 1 _ h7) (by simp) (by simp) (by simp) (by simp) (by simp) (by simp) (by simp) ?_
  simp only [go_sem, seval]
  refine hK _ ?_
  clear hK K
  refine Walk.weaken ⟨[(1, .box 1 0), (2, .box 2 0), (3, .d (.int .i64 v5.1)), (4, .d (.bool v5.2))], [(1, some (.box [.arr 6 0 2, .arr 9 0 1])), (2, some (.box [.d (.bool true), .arr 11 0 1, .d (.int .i64 3), .arr 13 0 1])), (6, some (.arr 3 1 (List.map iD [3, 5]))), (9, some (.arr 64 3 (List.map Row.D ([(Row.mk [1, 1] 1 2)])))), (11, some (.arr 3 1 (List.map iD [0]))), (13, some (.arr 33 7 (List.map Node.D [(Node.mk 3 0 0 0 0 3 1)])))]⟩ (by simp <;> omega) (by simp <;> omega) ?_
  refine Walk.seq (Walk.region' rfl fun K hK => ?_)
  simp only [go_sem, seval]
  refine hK _ ?_
  clear hK K
  refine Walk.seq (Walk.region' rfl fun K hK => ?_)
  simp only [go_sem, seval]
  refine hK _ ?_
  clear hK K
  refine Walk.weaken ⟨[(1, .box 1 0), (2, .box 2 0), (3, .d (.int .i64 v5.1)), (4, .d (.bool v5.2)), (5, .box 5 0)], [(1, some (.box [.arr 6 0 2, .arr 9 0 1])), (2, some (.box [.d (.bool true), .arr 11 0 1, .d (.int .i64 3), .arr 13 0 1])), (5, some (.box [.d (.bool true), .arr 11 0 1, .d (.int .i64 3), .arr 24 0 1])), (6, some (.arr 3 1 (List.map iD [3, 5]))), (9, some (.arr 64 3 (List.map Row.D ([(Row.mk [1, 1] 1 2)])))), (11, some (.arr 3 1 (List.map iD [0]))), (13, some (.arr 33 7 (List.map Node.D [(Node.mk 3 0 0 0 0 3 1)]))), (24, some (.arr 33 7 (List.map Node.D [(Node.mk 3 0 0 0 (-1) 0 1)])))]⟩ (by simp <;> omega) (by simp <;> omega) ?_
  refine Walk.seq (Walk.region' rfl fun K hK => ?_)
  simp only [go_sem, seval]
  refine VGdO hx (fun g8 hx => ?_) (fun g8 hx => ?_)
  · simp only [go_sem, seval, g8]
    refine VGdO hx (fun g9 hx => ?_) (fun g9 hx => ?_)
    · obtain ⟨v6, h10, hx⟩ := bind_elim hx
      simp only [go_sem, seval, g8, g9]
      refine VCl.lent rfl (by simp only [go_sem, seval, g8, g9]; try simp) (optimality_Check_ok [3, 5] ([(Row.mk [1, 1] 1 2)]) true [0] 3 [(Node.mk 3 0 0 0 0 3 1)] _ h10) (by simp [g8, g9]) (by simp [g8, g9]) (by simp [g8, g9]) (by simp [g8, g9]) (by simp [g8, g9]) (by simp [g8, g9]) (by simp [g8, g9]) ?_
      simp only [go_sem, seval, g8, g9]
      refine VGdO hx (fun g11 hx => ?_) (fun g11 hx => ?_)
      · obtain ⟨v7, h12, hx⟩ := bind_elim hx
        simp only [go_sem, seval, g8, g9, g11]
        refine VCl.lent rfl (by simp only [go_sem, seval, g8, g9, g11]; try simp) (optimality_Check_ok [3, 5] ([(Row.mk [1, 1] 1 2)]) true [0] 3 [(Node.mk 3 0 0 0 (-1) 0 1)] _ h12) (by simp [g8, g9, g11]) (by simp [g8, g9, g11]) (by simp [g8, g9, g11]) (by simp [g8, g9, g11]) (by simp [g8, g9, g11]) (by simp [g8, g9, g11]) (by simp [g8, g9, g11]) ?_
        simp only [go_sem, seval, g8, g9, g11]
        refine hK _ ?_
        clear hK K
        obtain rfl := Option.some.inj hx
        exact Walk.ret ⟨by simp [g8, g9, g11], by simp [g8, g9, g11]⟩
      simp only [go_sem, seval, g8, g9, g11]
      refine hK _ ?_
      clear hK K
      obtain rfl := Option.some.inj hx
      exact Walk.ret ⟨by simp [g8, g9, g11], by simp [g8, g9, g11]⟩
    simp only [go_sem, seval, g8, g9]
    refine hK _ ?_
    clear hK K
    obtain rfl := Option.some.inj hx
    exact Walk.ret ⟨by simp [g8, g9], by simp [g8, g9]⟩
  simp only [go_sem, seval, g8]
  refine hK _ ?_
  clear hK K
  obtain rfl := Option.some.inj hx
  exact Walk.ret ⟨by simp [g8], by simp [g8]⟩
noncomputable def ref08_Span_j1 (v4 : List Int) (v45 : Int) (v53 : Int) (v57 : Int) (v58 : Int) : Option ((Int × Int × Int) ⊕ (Int × Int × Bool)) :=
  (rd v4 v45).bind fun v59 => bif decide (v59 = (-1)) then (contO ((IntKind.i64.wrap (v57 + (min v53 0)), IntKind.i64.wrap (v58 + (max v53 0)), IntKind.i64.wrap (v45 + 1)) : Int × Int × Int)) else (contO ((v57, v58, IntKind.i64.wrap (v45 + 1)) : Int × Int × Int))
noncomputable def ref08_Span_l0 (v4 : List Int) (v1 : List Int) (v43 : Int) (v44 : Int) (v45 : Int) : Option ((Int × Int × Int) ⊕ (Int × Int × Bool)) :=
  bif decide (v45 < (v4.length : Int)) then ((rd v1 v45).bind fun v53 => (ref08_coef v53).bind fun v55 => bif !v55 then (exitO (some ((0, 0, false) : Int × Int × Bool))) else ((rd v4 v45).bind fun v60 => bif decide (v60 = 1) then (ref08_Span_j1 v4 v45 v53 (IntKind.i64.wrap (v43 + v53)) (IntKind.i64.wrap (v44 + v53))) else (ref08_Span_j1 v4 v45 v53 v43 v44))) else (exitO (some ((v43, v44, true) : Int × Int × Bool)))
noncomputable def ref08_Span (v1 : List Int) (v2 : Int) (v3 : Int) (v4 : List Int) : Option (Int × Int × Bool) :=
  bif decide ((v1.length : Int) > 12) then (some ((0, 0, false) : Int × Int × Bool)) else ((ref08_State (v1.length : Int) v4).bind fun v35 => bif !v35 then (some ((0, 0, false) : Int × Int × Bool)) else (iter (fun g : Int × Int × Int => ref08_Span_l0 v4 v1 g.1 g.2.1 g.2.2) (0, 0, 0)))
theorem ref08_Span_ok (v1 : List Int) (v2 : Int) (v3 : Int) (v4 : List Int) (r : Int × Int × Bool) (hx : ref08_Span v1 v2 v3 v4 = some r) :
    ACalls Try.prog 70 [.agg [.d (.sl (List.map iD v1)), .d (.int .i64 v2), .d (.int .i64 v3)], .d (.sl (List.map iD v4))] [] (.tup [.d (.int .i64 r.1), .d (.int .i64 r.2.1), .d (.bool r.2.2)]) [] := by
  refine ACalls.of_sem (n := 63) 0 [4, 5, 6] (fn := Try.f70) Try.func70 rfl rfl (.three rfl) rfl (by simp) (by intro i; simp only [hget]; (repeat' split) <;> simp <;> omega) ?_
  unfold ref08_Span at hx
  refine Walk.seq (Walk.region' rfl fun K hK => ?_)
  simp only [go_sem, seval]
  refine hK _ ?_
  clear hK K
  refine Walk.seq (Walk.seq (Walk.region' rfl fun K hK => ?_))
  simp only [go_sem, seval]
  refine VGdO hx (fun g81 hx => ?_) (fun g81 hx => ?_)
  · simp only [go_sem, seval, g81]
    refine hK _ ?_
    clear hK K
    refine Walk.condT rfl (Walk.seq (Walk.region' rfl fun K hK => ?_))
    simp only [go_sem, seval, g81]
    refine hK _ ?_
    clear hK K
    obtain rfl := Option.some.inj hx
    exact Walk.ret ⟨by simp [g81], by simp [g81]⟩
  obtain ⟨v35, h82, hx⟩ := bind_elim hx
  simp only [go_sem, seval, g81]
  refine VCl.pure rfl (by simp only [go_sem, seval, g81]; try simp) (ref08_State_ok (v1.length : Int) v4 _ h82) (by simp only [go_sem, seval, g81]; try simp) (by simp only [go_sem, seval, g81]; try simp) (by simp only [go_sem, seval, g81]; try simp) (by simp only [go_sem, seval, g81]; try simp) (by simp only [go_sem, seval, g81]; try simp) (by simp only [go_sem, seval, g81]; try simp) ?_
  simp only [go_sem, seval, g81]
  refine hK _ ?_
  clear hK K
  refine Walk.condO rfl hx (fun c84 hx => ?_) (fun c84 hx => ?_)
  · refine Walk.seq (Walk.region' rfl fun K hK => ?_)
    simp only [go_sem, seval, g81, c84]
    refine hK _ ?_
    clear hK K
    obtain rfl := Option.some.inj hx
    exact Walk.ret ⟨by simp [g81, c84], by simp [g81, c84]⟩
  refine Walk.skip (Walk.seq (Walk.region' rfl fun K hK => ?_))
  simp only [go_sem, seval, g81, c84]
  refine hK _ ?_
  clear hK K
  refine Walk.seq (Walk.seq (Walk.region' rfl fun K hK => ?_))
  simp only [go_sem, seval, g81, c84]
  refine hK _ ?_
  clear hK K
  refine Walk.block (Walk.loop ?_)
  refine Walk.weaken ⟨[(1, .d (.sl (List.map iD v4))), (2, .box 2 0), (7, .d (.int .i64 0)), (8, .d (.int .i64 0)), (9, .d (.int .i64 0))], [(2, some (.box [.d (.sl (List.map iD v1)), .d (.int .i64 v2), .d (.int .i64 v3)]))]⟩ (by simp [g81, c84] <;> omega) (by simp [g81, c84] <;> omega) ?_
  refine Walk.iter (σ := Int × Int × Int) (fun g => ⟨[(1, .d (.sl (List.map iD v4))), (2, .box 2 0), (7, .d (.int .i64 g.1)), (8, .d (.int .i64 g.2.1)), (9, .d (.int .i64 g.2.2))], [(2, some (.box [.d (.sl (List.map iD v1)), .d (.int .i64 v2), .d (.int .i64 v3)]))]⟩) (fun g : Int × Int × Int => ref08_Span_l0 v4 v1 g.1 g.2.1 g.2.2) _ (fun g y163 hx ih129 hr130 => ?_) (0, 0, 0) hx
  obtain ⟨v43, v44, v45⟩ := g
  unfold ref08_Span_l0 at hx
  try dsimp only at hx ⊢
  refine Walk.seq (Walk.seq (Walk.region' rfl fun K hK => ?_))
  simp only [go_sem, seval, g81, c84]
  refine hK _ ?_
  clear hK K
  refine Walk.condO rfl hx (fun c133 hx => ?_) (fun c133 hx => ?_)
  · refine Walk.skip (Walk.seq (Walk.block (Walk.seq (Walk.region' rfl fun K hK => ?_))))
    obtain ⟨v53, r134, a135, b136, c137, hx⟩ := rd_elim hx
    simp only [go_sem, seval, g81, c84, c133, a135, b136, c137]
    repeat refine And.intro (by first | omega | (simp; done) | (simp; omega)) ?_
    refine hK _ ?_
    clear hK K
    refine Walk.seq (Walk.seq (Walk.region' rfl fun K hK => ?_))
    obtain ⟨v55, h140, hx⟩ := bind_elim hx
    simp only [go_sem, seval, g81, c84, c133, a135, b136, c137]
    refine VCl.pure rfl (by simp only [go_sem, seval, g81, c84, c133, a135, b136, c137]; try simp) (ref08_coef_ok v53 _ h140) (by simp only [go_sem, seval, g81, c84, c133, a135, b136, c137]; try simp) (by simp only [go_sem, seval, g81, c84, c133, a135, b136, c137]; try simp) (by simp only [go_sem, seval, g81, c84, c133, a135, b136, c137]; try simp) (by simp only [go_sem, seval, g81, c84, c133, a135, b136, c137]; try simp) (by simp only [go_sem, seval, g81, c84, c133, a135, b136, c137]; try simp) (by simp only [go_sem, seval, g81, c84, c133, a135, b136, c137]; try simp) ?_
    simp only [go_sem, seval, g81, c84, c133, a135, b136, c137]
    refine hK _ ?_
    clear hK K
    refine Walk.condO rfl hx (fun c142 hx => ?_) (fun c142 hx => ?_)
    · refine Walk.seq (Walk.region' rfl fun K hK => ?_)
      simp only [go_sem, seval, g81, c84, c133, a135, b136, c137, c142]
      refine hK _ ?_
      clear hK K
      obtain ⟨z143, e144, hx⟩ := exit_elim hx
      rw [hr130 z143 e144] at hx
      obtain rfl := Option.some.inj hx
      exact Walk.ret ⟨by simp [g81, c84, c133, a135, b136, c137, c142], by simp [g81, c84, c133, a135, b136, c137, c142]⟩
    refine Walk.skip (Walk.seq (Walk.join (G := Int × Int) (fun g => ⟨[(1, .d (.sl (List.map iD v4))), (2, .box 2 0), (7, .d (.int .i64 g.1)), (8, .d (.int .i64 g.2)), (9, .d (.int .i64 v45)), (10, .d (.int .i64 v53))], [(2, some (.box [.d (.sl (List.map iD v1)), .d (.int .i64 v2), .d (.int .i64 v3)]))]⟩) (fun g => ref08_Span_j1 v4 v45 v53 g.1 g.2) hx (fun g hx => ?_) (fun fin150 => ?_)))
    · obtain ⟨v57, v58⟩ := g
      unfold ref08_Span_j1 at hx
      try dsimp only at hx ⊢
      refine Walk.seq (Walk.region' rfl fun K hK => ?_)
      obtain ⟨v59, r151, a152, b153, c154, hx⟩ := rd_elim hx
      simp only [go_sem, seval, g81, c84, c133, a135, b136, c137, c142, a152, b153, c154]
      repeat refine And.intro (by first | omega | (simp; done) | (simp; omega)) ?_
      refine hK _ ?_
      clear hK K
      refine Walk.condO rfl hx (fun c155 hx => ?_) (fun c155 hx => ?_)
      · refine Walk.seq (Walk.region' rfl fun K hK => ?_)
        simp only [go_sem, seval, g81, c84, c133, a135, b136, c137, c142, a152, b153, c154, c155]
        refine hK _ ?_
        clear hK K
        refine Walk.region' rfl fun K hK => ?_
        simp only [go_sem, seval, g81, c84, c133, a135, b136, c137, c142, a152, b153, c154, c155]
        refine hK _ ?_
        clear hK K
        refine Walk.inBlock (Walk.region' rfl fun K hK => ?_)
        simp only [go_sem, seval, g81, c84, c133, a135, b136, c137, c142, a152, b153, c154, c155]
        refine hK _ ?_
        clear hK K
        exact Walk.weaken _ (by simp [g81, c84, c133, a135, b136, c137, c142, a152, b153, c154, c155] <;> omega) (by simp [g81, c84, c133, a135, b136, c137, c142, a152, b153, c154, c155] <;> omega) (ih129 _ (cont_elim hx))
      refine Walk.skip (Walk.inBlock (Walk.region' rfl fun K hK => ?_))
      simp only [go_sem, seval, g81, c84, c133, a135, b136, c137, c142, a152, b153, c154, c155]
      refine hK _ ?_
      clear hK K
      exact Walk.weaken _ (by simp [g81, c84, c133, a135, b136, c137, c142, a152, b153, c154, c155] <;> omega) (by simp [g81, c84, c133, a135, b136, c137, c142, a152, b153, c154, c155] <;> omega) (ih129 _ (cont_elim hx))
    refine Walk.seq (Walk.region' rfl fun K hK => ?_)
    obtain ⟨v60, r156, a157, b158, c159, hx⟩ := rd_elim hx
    simp only [go_sem, seval, g81, c84, c133, a135, b136, c137, c142, a157, b158, c159]
    repeat refine And.intro (by first | omega | (simp; done) | (simp; omega)) ?_
    refine hK _ ?_
    clear hK K
    refine Walk.condO rfl hx (fun c160 hx => ?_) (fun c160 hx => ?_)
    · refine Walk.seq (Walk.region' rfl fun K hK => ?_)
      simp only [go_sem, seval, g81, c84, c133, a135, b136, c137, c142, a157, b158, c159, c160]
      refine hK _ ?_
      clear hK K
      refine Walk.region' rfl fun K hK => ?_
      simp only [go_sem, seval, g81, c84, c133, a135, b136, c137, c142, a157, b158, c159, c160]
      refine hK _ ?_
      clear hK K
      exact Walk.weaken _ (by simp [g81, c84, c133, a135, b136, c137, c142, a157, b158, c159, c160] <;> omega) (by simp [g81, c84, c133, a135, b136, c137, c142, a157, b158, c159, c160] <;> omega) (fin150 (IntKind.i64.wrap (v43 + v53), IntKind.i64.wrap (v44 + v53)) hx)
    refine Walk.skip ?_
    exact Walk.weaken _ (by simp [g81, c84, c133, a135, b136, c137, c142, a157, b158, c159, c160] <;> omega) (by simp [g81, c84, c133, a135, b136, c137, c142, a157, b158, c159, c160] <;> omega) (fin150 (v43, v44) hx)
  refine Walk.exit rfl ?_
  obtain ⟨z161, e162, hx⟩ := exit_elim hx
  rw [hr130 z161 e162] at hx
  refine Walk.seq (Walk.region' rfl fun K hK => ?_)
  simp only [go_sem, seval, g81, c84, c133]
  refine hK _ ?_
  clear hK K
  obtain rfl := Option.some.inj hx
  exact Walk.ret ⟨by simp [g81, c84, c133], by simp [g81, c84, c133]⟩
end Go.AX

