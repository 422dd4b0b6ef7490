import Derived.Test.YtebcedhhcpibpaaE3
set_option linter.unusedVariables false
set_option linter.unusedSimpArgs false
set_option maxRecDepth 20000
set_option maxHeartbeats 4000000
namespace Go.AX
open Go.Proofs
attribute [local simp] spl_len take_snoc take_cons_drop cons_rep cons_tail iA bA take_set_len idsL_rep idsL_iA idsL_bA idsL_sA idsL_set_mem idsL_sub sA_def List.map_replicate frVs_setS frVs_self frV_arr take_map_len subE subH eget hget upE upV upH upO_refl upO_box upVs freshE freshH freshO AV.ids AV.idsL ids_box ids_arr ids_pre idsL_room frE frV_refl frV_arr frH frO_refl frO_box frVs newOk evalA AV.viewXs AV.viewX AV.viewXP AV.viewXPs AV.viewPs AV.viewP AV.flat AV.flatL D.flat arrsOnly flatObjs newNames subOf closedIn allSome dstOk newOrOld avD avDp zv_i64 zv_u8 zv_bool zv_nils zv_nilp zv_str retAV aLoad cut TI.isAgg nlE nlH nlO_refl nlO_box nlVs nlV_refl nlV_nil iD uD bD tD lD List.map_set ti1 ti2 ti3 ti4 ti5 ti6 ti7 ti8 ti9 ti10 ti11 ti12 ti13 ti14 ti15 ti16 ti17 ti18 ti19 ti21 ti22 ti23 ti24 ti25 ti26 ti27 ti28 ti29 ti30 ti32 ti33 ti34 ti35 ti36 ti37 ti38 ti40 ti41 ti42 ti43 ti44 ti45 ti46 ti47 ti48 ti49 ti50 ti51 ti52 ti54 ti55 ti56 ti57 ti58 ti59 ti61 ti62 ti63 ti64 ti65 ti66 ti67 ti68 ti69 ti70 ti72 ti73 ti74 ti75 ti76 ti77 ti78 ti79 ti80 ti81 ti82 ti83 ti84 ti85 ti86 ti87 ti89 ti91 ti92 ti93 ti94 ti95 ti96 ti97 ti98 ti99 ti100 ti101 ti103 ti105 ti106 ti107 ti108 ti109 ti110 ti111 ti112 ti113 ti114 ti115 ti117 ti118 ti120 ti121 ti122 ti123 ti124 ti125 ti126 ti127 ti128 ti129 ti130 ti131 ti132 ti133 ti134 ti135 ti136 ti137 ti138 ti139 ti140 Row.D Node.D Part.D TItem.D Ref.D
attribute [local go_sem] V1_none V1_some V_nil V_move V_assign V_pick V_bin V_un V_extract V_makeFunc V_convert V_nilCheck V_fieldAddr V_field V_load V_store V_indexAddr V_index V_slice V_slice0 V_alloc V_box V_build V_buildSlice V_makeSlice V_len V_min V_max V_append V_copy V_call V_guard VGs_some VG_tt VG_ff VG_tf VG_ft VG_u gslot ok fail po so aNew dstOk freshU addLog_none' addLog_some' St.step putL evalA eget hget argE freshE freshO freshH AV.ids AV.idsL AV.ok1 AV.cells ids_box ids_arr liveBox liveArr isArr isObj isBoxB aPick isNilC aNilEq aBin aUn aExtract aMakeFunc aConvert aNilCheck aFieldAddr aField cut aLen aIndexAddr aMin aMax aIndex bnd isInt aSlice aSlice0 aLoad aAlloc aBox aStore splice aMake aMakeBox aCopy cellsOf cellsOfP updIds newIds zv_i64 zv_u8 zv_bool zv_nils zv_nilp cond_bool cond_int TI.isAgg TK.isSl TK.el okL avDps avDp avD List.map_cons List.map_nil List.append_nil List.nil_append List.cons_append List.length_cons List.length_nil List.take_succ_cons List.take_zero List.drop_succ_cons List.drop_zero List.take_nil List.drop_nil List.headD_cons List.getD_cons_zero List.getD_cons_succ List.mem_cons List.not_mem_nil List.getElem?_cons_zero List.getElem?_cons_succ List.toList_toArray Option.getD_some Option.getD_none Option.bind_some Option.bind_none Option.map_some Option.map_none Option.getD Option.toList Nat.zero_add Nat.add_zero Nat.zero_le Nat.le_refl if_true if_false ite_self true_and and_true false_and and_false true_or or_true false_or or_false not_true_eq_false not_false_eq_true ne_eq cond_true cond_false Bool.true_eq_false Bool.false_eq_true forall_const decide_true decide_false implies_true true_implies and_self or_self Nat.succ_ne_zero Int.toNat_natCast Int.natCast_nonneg List.length_map decide_eq_true_eq AV.views AV.view AV.viewPs AV.viewP arrsOnly newNames List.length_append List.append_assoc Bool.not_true Bool.not_false AV.ok2 aBuild fillR fillP aBuildSlice dense elP aAppend esOf esOfP List.forall_mem_cons forall_eq_or_imp forall_eq zD zDp map_take' map_drop' iD uD bD tD lD iD_len uD_len bD_len tD_len lD_len LB Int.cast_ofNat_Int Int.natCast_zero Int.natCast_one head_len all_len List.head?_cons List.head?_nil Bool.not_not eq_self List.take_length zv_str aConv byteOf isByte map_bcell bytes_all str_map cellsEq cellsP AV.kd Bool.and_true Bool.true_and Bool.and_false Bool.false_and spl_map spl_len mkbox_i mkbox_b flat_iD dataL_iA dataL_bA zv_u64 flat_iD' flat_len dataL_tA dataL_ttA spl_mt spl_mtt mkbox_s splice_one take_cons_drop cons_rep cons_tail hd_set hd_set0 List.length_replicate iA bA sA_def List.set_set List.length_set idsL_iA idsL_bA idsL_sA idsL_setE idsL_rep List.append_eq Nat.mul_one ids_pre idsL_room appBox_full appBox_room pre_iA one_iD List.flatten_cons List.flatten_nil ti1 ti2 ti3 ti4 ti5 ti6 ti7 ti8 ti9 ti10 ti11 ti12 ti13 ti14 ti15 ti16 ti17 ti18 ti19 ti21 ti22 ti23 ti24 ti25 ti26 ti27 ti28 ti29 ti30 ti32 ti33 ti34 ti35 ti36 ti37 ti38 ti40 ti41 ti42 ti43 ti44 ti45 ti46 ti47 ti48 ti49 ti50 ti51 ti52 ti54 ti55 ti56 ti57 ti58 ti59 ti61 ti62 ti63 ti64 ti65 ti66 ti67 ti68 ti69 ti70 ti72 ti73 ti74 ti75 ti76 ti77 ti78 ti79 ti80 ti81 ti82 ti83 ti84 ti85 ti86 ti87 ti89 ti91 ti92 ti93 ti94 ti95 ti96 ti97 ti98 ti99 ti100 ti101 ti103 ti105 ti106 ti107 ti108 ti109 ti110 ti111 ti112 ti113 ti114 ti115 ti117 ti118 ti120 ti121 ti122 ti123 ti124 ti125 ti126 ti127 ti128 ti129 ti130 ti131 ti132 ti133 ti134 ti135 ti136 ti137 ti138 ti139 ti140 Row.D Node.D Part.D TItem.D Ref.D Row.D_len Node.D_len Part.D_len TItem.D_len Ref.D_len zs_ zs_48_49_50_51_52_53_54_55_56_57_48_49_50_51_52_53_54_55_56_57_48_49_50_51_52_53_54_55_56_57_48_49_50_51_52_53_54_55_56_57_120 zs_113 zs_116_97_98_9 eqf74_00
noncomputable def ref08_Valid_l2 (v108 : Row) (v95 : Int) (v115 : Int) : Option ((Int) ⊕ ((Int) ⊕ (Bool))) :=
  bif decide (v115 < (v108.Coefs.length : Int)) then ((rd v108.Coefs v115).bind fun v118 => (ref08_coef v118).bind fun v119 => bif !v119 then (exitO (exitO (some (false : Bool)))) else (contO (IntKind.i64.wrap (v115 + 1) : Int))) else (exitO (contO (IntKind.i64.wrap (v95 + 1) : Int)))
noncomputable def ref08_Valid_l1 (v2 : List Row) (v1 : List Int) (v95 : Int) : Option ((Int) ⊕ (Bool)) :=
  bif decide (v95 < (v2.length : Int)) then ((rd v2 v95).bind fun v108 => bif decide (¬ (v108.Coefs.length : Int) = (v1.length : Int)) then (exitO (some (false : Bool))) else ((ref08_limit v108.Least).bind fun v111 => bif !v111 then (exitO (some (false : Bool))) else ((ref08_limit v108.Most).bind fun v112 => bif !v112 then (exitO (some (false : Bool))) else (iter (fun g : Int => ref08_Valid_l2 v108 v95 g) 0)))) else (exitO (some (true : Bool)))
noncomputable def ref08_Valid_l0 (v1 : List Int) (v2 : List Row) (v78 : Int) : Option ((Int) ⊕ (Bool)) :=
  bif decide (v78 < (v1.length : Int)) then ((rd v1 v78).bind fun v81 => (ref08_inside v81 10000).bind fun v82 => bif !v82 then (exitO (some (false : Bool))) else (contO (IntKind.i64.wrap (v78 + 1) : Int))) else (exitO (iter (fun g : Int => ref08_Valid_l1 v2 v1 g) 0))
noncomputable def ref08_Valid (v1 : List Int) (v2 : List Row) : Option (Bool) :=
  bif decide ((v1.length : Int) > 12) then (some (false : Bool)) else (bif decide ((v2.length : Int) > 60) then (some (false : Bool)) else (iter (fun g : Int => ref08_Valid_l0 v1 v2 g) 0))
theorem ref08_Valid_ok (v1 : List Int) (v2 : List Row) (r : Bool) (hx : ref08_Valid v1 v2 = some r) :
    ACalls Try.prog 18 [.agg [.d (.sl (List.map iD v1)), .d (.sl (List.map Row.D v2))]] [] (.d (.bool r)) [] := by
  refine ACalls.of_sem (n := 76) 0 [2] (fn := Try.f18) Try.func18 rfl rfl (.one rfl) rfl (by simp) (by intro i; simp only [hget]; (repeat' split) <;> simp <;> omega) ?_
  unfold ref08_Valid at hx
  refine Walk.seq (Walk.region' rfl fun K hK => ?_)
  simp only [go_sem, seval]
  refine hK _ ?_
  clear hK K
  refine Walk.seq (Walk.seq (Walk.region' rfl fun K hK => ?_))
  simp only [go_sem, seval]
  refine VGdO hx (fun g252 hx => ?_) (fun g252 hx => ?_)
  · simp only [go_sem, seval, g252]
    refine hK _ ?_
    clear hK K
    refine Walk.condT rfl (Walk.seq (Walk.region' rfl fun K hK => ?_))
    simp only [go_sem, seval, g252]
    refine hK _ ?_
    clear hK K
    obtain rfl := Option.some.inj hx
    exact Walk.ret ⟨by simp [g252], by simp [g252]⟩
  simp only [go_sem, seval, g252]
  refine hK _ ?_
  clear hK K
  refine Walk.condO rfl hx (fun c254 hx => ?_) (fun c254 hx => ?_)
  · refine Walk.seq (Walk.region' rfl fun K hK => ?_)
    simp only [go_sem, seval, g252, c254]
    refine hK _ ?_
    clear hK K
    obtain rfl := Option.some.inj hx
    exact Walk.ret ⟨by simp [g252, c254], by simp [g252, c254]⟩
  refine Walk.skip (Walk.seq (Walk.seq (Walk.region' rfl fun K hK => ?_)))
  simp only [go_sem, seval, g252, c254]
  refine hK _ ?_
  clear hK K
  refine Walk.block (Walk.loop ?_)
  refine Walk.weaken ⟨[(1, .box 1 0), (3, .d (.int .i64 0))], [(1, some (.box [.d (.sl (List.map iD v1)), .d (.sl (List.map Row.D v2))]))]⟩ (by simp [g252, c254] <;> omega) (by simp [g252, c254] <;> omega) ?_
  refine Walk.iter (σ := Int) (fun g => ⟨[(1, .box 1 0), (3, .d (.int .i64 g))], [(1, some (.box [.d (.sl (List.map iD v1)), .d (.sl (List.map Row.D v2))]))]⟩) (fun g : Int => ref08_Valid_l0 v1 v2 g) _ (fun v78 y513 hx ih335 hr336 => ?_) 0 hx
  unfold ref08_Valid_l0 at hx
  try dsimp only at hx ⊢
  refine Walk.seq (Walk.seq (Walk.region' rfl fun K hK => ?_))
  simp only [go_sem, seval, g252, c254]
  refine hK _ ?_
  clear hK K
  refine Walk.condO rfl hx (fun c339 hx => ?_) (fun c339 hx => ?_)
  · refine Walk.skip (Walk.seq (Walk.block (Walk.seq (Walk.region' rfl fun K hK => ?_))))
    obtain ⟨v81, r340, a341, b342, c343, hx⟩ := rd_elim hx
    obtain ⟨v82, h344, hx⟩ := bind_elim hx
    simp only [go_sem, seval, g252, c254, c339, a341, b342, c343]
    repeat refine And.intro (by first | omega | (simp; done) | (simp; omega)) ?_
    refine VCl.pure rfl (by simp only [go_sem, seval, g252, c254, c339, a341, b342, c343]; try simp) (ref08_inside_ok v81 10000 _ h344) (by simp only [go_sem, seval, g252, c254, c339, a341, b342, c343]; try simp) (by simp only [go_sem, seval, g252, c254, c339, a341, b342, c343]; try simp) (by simp only [go_sem, seval, g252, c254, c339, a341, b342, c343]; try simp) (by simp only [go_sem, seval, g252, c254, c339, a341, b342, c343]; try simp) (by simp only [go_sem, seval, g252, c254, c339, a341, b342, c343]; try simp) (by simp only [go_sem, seval, g252, c254, c339, a341, b342, c343]; try simp) ?_
    simp only [go_sem, seval, g252, c254, c339, a341, b342, c343]
    refine hK _ ?_
    clear hK K
    refine Walk.condO rfl hx (fun c345 hx => ?_) (fun c345 hx => ?_)
    · refine Walk.seq (Walk.region' rfl fun K hK => ?_)
      simp only [go_sem, seval, g252, c254, c339, a341, b342, c343, c345]
      refine hK _ ?_
      clear hK K
      obtain ⟨z346, e347, hx⟩ := exit_elim hx
      rw [hr336 z346 e347] at hx
      obtain rfl := Option.some.inj hx
      exact Walk.ret ⟨by simp [g252, c254, c339, a341, b342, c343, c345], by simp [g252, c254, c339, a341, b342, c343, c345]⟩
    refine Walk.skip (Walk.inBlock (Walk.region' rfl fun K hK => ?_))
    simp only [go_sem, seval, g252, c254, c339, a341, b342, c343, c345]
    refine hK _ ?_
    clear hK K
    exact Walk.weaken _ (by simp [g252, c254, c339, a341, b342, c343, c345] <;> omega) (by simp [g252, c254, c339, a341, b342, c343, c345] <;> omega) (ih335 _ (cont_elim hx))
  refine Walk.exit rfl ?_
  obtain ⟨z348, e349, hx⟩ := exit_elim hx
  rw [hr336 z348 e349] at hx
  refine Walk.seq (Walk.seq (Walk.region' rfl fun K hK => ?_))
  simp only [go_sem, seval, g252, c254, c339]
  refine hK _ ?_
  clear hK K
  refine Walk.block (Walk.loop ?_)
  refine Walk.weaken ⟨[(1, .box 1 0), (4, .d (.int .i64 0))], [(1, some (.box [.d (.sl (List.map iD v1)), .d (.sl (List.map Row.D v2))]))]⟩ (by simp [g252, c254, c339] <;> omega) (by simp [g252, c254, c339] <;> omega) ?_
  refine Walk.iter (σ := Int) (fun g => ⟨[(1, .box 1 0), (4, .d (.int .i64 g))], [(1, some (.box [.d (.sl (List.map iD v1)), .d (.sl (List.map Row.D v2))]))]⟩) (fun g : Int => ref08_Valid_l1 v2 v1 g) _ (fun v95 y512 hx ih448 hr449 => ?_) 0 hx
  unfold ref08_Valid_l1 at hx
  try dsimp only at hx ⊢
  refine Walk.seq (Walk.seq (Walk.region' rfl fun K hK => ?_))
  simp only [go_sem, seval, g252, c254, c339]
  refine hK _ ?_
  clear hK K
  refine Walk.condO rfl hx (fun c452 hx => ?_) (fun c452 hx => ?_)
  · refine Walk.skip (Walk.seq (Walk.block (Walk.seq (Walk.region' rfl fun K hK => ?_))))
    obtain ⟨v108, r453, a454, b455, c456, hx⟩ := rd_elim hx
    simp only [go_sem, seval, g252, c254, c339, c452, a454, b455, c456]
    repeat refine And.intro (by first | omega | (simp; done) | (simp; omega)) ?_
    refine hK _ ?_
    clear hK K
    refine Walk.seq (Walk.seq (Walk.region' rfl fun K hK => ?_))
    simp only [go_sem, seval, g252, c254, c339, c452, a454, b455, c456]
    refine VGdO hx (fun g462 hx => ?_) (fun g462 hx => ?_)
    · simp only [go_sem, seval, g252, c254, c339, c452, a454, b455, c456, g462]
      refine hK _ ?_
      clear hK K
      refine Walk.condT rfl (Walk.seq (Walk.region' rfl fun K hK => ?_))
      simp only [go_sem, seval, g252, c254, c339, c452, a454, b455, c456, g462]
      refine hK _ ?_
      clear hK K
      obtain ⟨z463, e464, hx⟩ := exit_elim hx
      rw [hr449 z463 e464] at hx
      obtain rfl := Option.some.inj hx
      exact Walk.ret ⟨by simp [g252, c254, c339, c452, a454, b455, c456, g462], by simp [g252, c254, c339, c452, a454, b455, c456, g462]⟩
    obtain ⟨v111, h465, hx⟩ := bind_elim hx
    simp only [go_sem, seval, g252, c254, c339, c452, a454, b455, c456, g462]
    refine VCl.pure rfl (by simp only [go_sem, seval, g252, c254, c339, c452, a454, b455, c456, g462]; try simp) (ref08_limit_ok v108.Least _ h465) (by simp only [go_sem, seval, g252, c254, c339, c452, a454, b455, c456, g462]; try simp) (by simp only [go_sem, seval, g252, c254, c339, c452, a454, b455, c456, g462]; try simp) (by simp only [go_sem, seval, g252, c254, c339, c452, a454, b455, c456, g462]; try simp) (by simp only [go_sem, seval, g252, c254, c339, c452, a454, b455, c456, g462]; try simp) (by simp only [go_sem, seval, g252, c254, c339, c452, a454, b455, c456, g462]; try simp) (by simp only [go_sem, seval, g252, c254, c339, c452, a454, b455, c456, g462]; try simp) ?_
    simp only [go_sem, seval, g252, c254, c339, c452, a454, b455, c456, g462]
    refine VGdO hx (fun g466 hx => ?_) (fun g466 hx => ?_)
    · simp only [go_sem, seval, g252, c254, c339, c452, a454, b455, c456, g462, g466]
      refine hK _ ?_
      clear hK K
      refine Walk.condT rfl (Walk.seq (Walk.region' rfl fun K hK => ?_))
      simp only [go_sem, seval, g252, c254, c339, c452, a454, b455, c456, g462, g466]
      refine hK _ ?_
      clear hK K
      obtain ⟨z467, e468, hx⟩ := exit_elim hx
      rw [hr449 z467 e468] at hx
      obtain rfl := Option.some.inj hx
      exact Walk.ret ⟨by simp [g252, c254, c339, c452, a454, b455, c456, g462, g466], by simp [g252, c254, c339, c452, a454, b455, c456, g462, g466]⟩
    obtain ⟨v112, h469, hx⟩ := bind_elim hx
    simp only [go_sem, seval, g252, c254, c339, c452, a454, b455, c456, g462, g466]
    refine VCl.pure rfl (by simp only [go_sem, seval, g252, c254, c339, c452, a454, b455, c456, g462, g466]; try simp) (ref08_limit_ok v108.Most _ h469) (by simp only [go_sem, seval, g252, c254, c339, c452, a454, b455, c456, g462, g466]; try simp) (by simp only [go_sem, seval, g252, c254, c339, c452, a454, b455, c456, g462, g466]; try simp) (by simp only [go_sem, seval, g252, c254, c339, c452, a454, b455, c456, g462, g466]; try simp) (by simp only [go_sem, seval, g252, c254, c339, c452, a454, b455, c456, g462, g466]; try simp) (by simp only [go_sem, seval, g252, c254, c339, c452, a454, b455, c456, g462, g466]; try simp) (by simp only [go_sem, seval, g252, c254, c339, c452, a454, b455, c456, g462, g466]; try simp) ?_
    simp only [go_sem, seval, g252, c254, c339, c452, a454, b455, c456, g462, g466]
    refine hK _ ?_
    clear hK K
    refine Walk.condO rfl hx (fun c471 hx => ?_) (fun c471 hx => ?_)
    · refine Walk.seq (Walk.region' rfl fun K hK => ?_)
      simp only [go_sem, seval, g252, c254, c339, c452, a454, b455, c456, g462, g466, c471]
      refine hK _ ?_
      clear hK K
      obtain ⟨z472, e473, hx⟩ := exit_elim hx
      rw [hr449 z472 e473] at hx
      obtain rfl := Option.some.inj hx
      exact Walk.ret ⟨by simp [g252, c254, c339, c452, a454, b455, c456, g462, g466, c471], by simp [g252, c254, c339, c452, a454, b455, c456, g462, g466, c471]⟩
    refine Walk.skip (Walk.seq (Walk.region' rfl fun K hK => ?_))
    simp only [go_sem, seval, g252, c254, c339, c452, a454, b455, c456, g462, g466, c471]
    refine hK _ ?_
    clear hK K
    refine Walk.block (Walk.loop ?_)
    refine Walk.weaken ⟨[(1, .box 1 0), (4, .d (.int .i64 v95)), (5, .box 5 0), (6, .d (.int .i64 0))], [(1, some (.box [.d (.sl (List.map iD v1)), .d (.sl (List.map Row.D v2))])), (5, some (.box [.d (.sl (List.map iD v108.Coefs)), .d (.int .i64 v108.Least), .d (.int .i64 v108.Most)]))]⟩ (by simp [g252, c254, c339, c452, a454, b455, c456, g462, g466, c471] <;> omega) (by simp [g252, c254, c339, c452, a454, b455, c456, g462, g466, c471] <;> omega) ?_
    refine Walk.iter (σ := Int) (fun g => ⟨[(1, .box 1 0), (4, .d (.int .i64 v95)), (5, .box 5 0), (6, .d (.int .i64 g))], [(1, some (.box [.d (.sl (List.map iD v1)), .d (.sl (List.map Row.D v2))])), (5, some (.box [.d (.sl (List.map iD v108.Coefs)), .d (.int .i64 v108.Least), .d (.int .i64 v108.Most)]))]⟩) (fun g : Int => ref08_Valid_l2 v108 v95 g) _ (fun v115 y509 hx ih492 hr493 => ?_) 0 hx
    unfold ref08_Valid_l2 at hx
    try dsimp only at hx ⊢
    refine Walk.seq (Walk.seq (Walk.region' rfl fun K hK => ?_))
    simp only [go_sem, seval, g252, c254, c339, c452, a454, b455, c456, g462, g466, c471]
    refine hK _ ?_
    clear hK K
    refine Walk.condO rfl hx (fun c496 hx => ?_) (fun c496 hx => ?_)
    · refine Walk.skip (Walk.seq (Walk.block (Walk.seq (Walk.region' rfl fun K hK => ?_))))
      obtain ⟨v118, r497, a498, b499, c500, hx⟩ := rd_elim hx
      obtain ⟨v119, h501, hx⟩ := bind_elim hx
      simp only [go_sem, seval, g252, c254, c339, c452, a454, b455, c456, g462, g466, c471, c496, a498, b499, c500]
      repeat refine And.intro (by first | omega | (simp; done) | (simp; omega)) ?_
      refine VCl.pure rfl (by simp only [go_sem, seval, g252, c254, c339, c452, a454, b455, c456, g462, g466, c471, c496, a498, b499, c500]; try simp) (ref08_coef_ok v118 _ h501) (by simp only [go_sem, seval, g252, c254, c339, c452, a454, b455, c456, g462, g466, c471, c496, a498, b499, c500]; try simp) (by simp only [go_sem, seval, g252, c254, c339, c452, a454, b455, c456, g462, g466, c471, c496, a498, b499, c500]; try simp) (by simp only [go_sem, seval, g252, c254, c339, c452, a454, b455, c456, g462, g466, c471, c496, a498, b499, c500]; try simp) (by simp only [go_sem, seval, g252, c254, c339, c452, a454, b455, c456, g462, g466, c471, c496, a498, b499, c500]; try simp) (by simp only [go_sem, seval, g252, c254, c339, c452, a454, b455, c456, g462, g466, c471, c496, a498, b499, c500]; try simp) (by simp only [go_sem, seval, g252, c254, c339, c452, a454, b455, c456, g462, g466, c471, c496, a498, b499, c500]; try simp) ?_
      simp only [go_sem, seval, g252, c254, c339, c452, a454, b455, c456, g462, g466, c471, c496, a498, b499, c500]
      refine hK _ ?_
      clear hK K
      refine Walk.condO rfl hx (fun c502 hx => ?_) (fun c502 hx => ?_)
      · refine Walk.seq (Walk.region' rfl fun K hK => ?_)
        simp only [go_sem, seval, g252, c254, c339, c452, a454, b455, c456, g462, g466, c471, c496, a498, b499, c500, c502]
        refine hK _ ?_
        clear hK K
        obtain ⟨z503, e504, hx⟩ := exit_elim hx
        rw [hr493 z503 e504] at hx
        obtain ⟨z505, e506, hx⟩ := exit_elim hx
        rw [hr449 z505 e506] at hx
        obtain rfl := Option.some.inj hx
        exact Walk.ret ⟨by simp [g252, c254, c339, c452, a454, b455, c456, g462, g466, c471, c496, a498, b499, c500, c502], by simp [g252, c254, c339, c452, a454, b455, c456, g462, g466, c471, c496, a498, b499, c500, c502]⟩
      refine Walk.skip (Walk.inBlock (Walk.region' rfl fun K hK => ?_))
      simp only [go_sem, seval, g252, c254, c339, c452, a454, b455, c456, g462, g466, c471, c496, a498, b499, c500, c502]
      refine hK _ ?_
      clear hK K
      exact Walk.weaken _ (by simp [g252, c254, c339, c452, a454, b455, c456, g462, g466, c471, c496, a498, b499, c500, c502] <;> omega) (by simp [g252, c254, c339, c452, a454, b455, c456, g462, g466, c471, c496, a498, b499, c500, c502] <;> omega) (ih492 _ (cont_elim hx))
    refine Walk.exit rfl ?_
    obtain ⟨z507, e508, hx⟩ := exit_elim hx
    rw [hr493 z507 e508] at hx
    refine Walk.inBlock (Walk.region' rfl fun K hK => ?_)
    simp only [go_sem, seval, g252, c254, c339, c452, a454, b455, c456, g462, g466, c471, c496]
    refine hK _ ?_
    clear hK K
    exact Walk.weaken _ (by simp [g252, c254, c339, c452, a454, b455, c456, g462, g466, c471, c496] <;> omega) (by simp [g252, c254, c339, c452, a454, b455, c456, g462, g466, c471, c496] <;> omega) (ih448 _ (cont_elim hx))
  refine Walk.exit rfl ?_
  obtain ⟨z510, e511, hx⟩ := exit_elim hx
  rw [hr449 z510 e511] at hx
  refine Walk.seq (Walk.region' rfl fun K hK => ?_)
  simp only [go_sem, seval, g252, c254, c339, c452]
  refine hK _ ?_
  clear hK K
  obtain rfl := Option.some.inj hx
  exact Walk.ret ⟨by simp [g252, c254, c339, c452], by simp [g252, c254, c339, c452]⟩
noncomputable def ref08_Choice_l0 (v2 : List Int) (v1 : Int) (v11 : Int) : Option ((Int) ⊕ (Bool)) :=
  bif decide (v11 < (v2.length : Int)) then ((rd v2 v11).bind fun v14 => bif decide (v14 < 0) then (exitO (some (false : Bool))) else (bif decide (v14 ≥ v1) then (exitO (some (false : Bool))) else (bif decide (v11 > 0) then ((rd v2 (IntKind.i64.wrap (v11 - 1))).bind fun v15 => bif decide (v15 ≥ v14) then (exitO (some (false : Bool))) else (contO (IntKind.i64.wrap (v11 + 1) : Int))) else (contO (IntKind.i64.wrap (v11 + 1) : Int))))) else (exitO (some (true : Bool)))
noncomputable def ref08_Choice (v1 : Int) (v2 : List Int) : Option (Bool) :=
  iter (fun g : Int => ref08_Choice_l0 v2 v1 g) 0
theorem ref08_Choice_ok (v1 : Int) (v2 : List Int) (r : Bool) (hx : ref08_Choice v1 v2 = some r) :
    ACalls Try.prog 54 [.d (.int .i64 v1), .d (.sl (List.map iD v2))] [] (.d (.bool r)) [] := by
  refine ACalls.of_sem (n := 41) 0 [4] (fn := Try.f54) Try.func54 rfl rfl (.one rfl) rfl (by simp) (by intro i; simp only [hget]; (repeat' split) <;> simp <;> omega) ?_
  unfold ref08_Choice at hx
  refine Walk.seq (Walk.region' rfl fun K hK => ?_)
  simp only [go_sem, seval]
  refine hK _ ?_
  clear hK K
  refine Walk.seq (Walk.seq (Walk.region' rfl fun K hK => ?_))
  simp only [go_sem, seval]
  refine hK _ ?_
  clear hK K
  refine Walk.block (Walk.loop ?_)
  refine Walk.weaken ⟨[(0, .d (.int .i64 v1)), (1, .d (.sl (List.map iD v2))), (5, .d (.int .i64 0))], []⟩ (by simp <;> omega) (by simp <;> omega) ?_
  refine Walk.iter (σ := Int) (fun g => ⟨[(0, .d (.int .i64 v1)), (1, .d (.sl (List.map iD v2))), (5, .d (.int .i64 g))], []⟩) (fun g : Int => ref08_Choice_l0 v2 v1 g) _ (fun v11 y93 hx ih68 hr69 => ?_) 0 hx
  unfold ref08_Choice_l0 at hx
  try dsimp only at hx ⊢
  refine Walk.seq (Walk.seq (Walk.region' rfl fun K hK => ?_))
  simp only [go_sem, seval]
  refine hK _ ?_
  clear hK K
  refine Walk.condO rfl hx (fun c72 hx => ?_) (fun c72 hx => ?_)
  · refine Walk.skip (Walk.seq (Walk.block (Walk.seq (Walk.drawn' rfl mixed fun K hK => ?_))))
    obtain ⟨v14, r73, a74, b75, c76, hx⟩ := rd_elim hx
    simp only [go_sem, seval, c72, a74, b75, c76]
    repeat refine And.intro (by first | omega | (simp; done) | (simp; omega)) ?_
    refine VGdO hx (fun g77 hx => ?_) (fun g77 hx => ?_)
    · simp only [go_sem, seval, c72, a74, b75, c76, g77]
      refine hK _ _ (by kernel_rfl) (by simp [c72, a74, b75, c76, g77]) ?_
      clear hK K
      refine Walk.condT rfl (Walk.seq (Walk.region' rfl fun K hK => ?_))
      simp only [go_sem, seval, c72, a74, b75, c76, g77]
      refine hK _ ?_
      clear hK K
      obtain ⟨z78, e79, hx⟩ := exit_elim hx
      rw [hr69 z78 e79] at hx
      obtain rfl := Option.some.inj hx
      exact Walk.ret ⟨by simp [c72, a74, b75, c76, g77], by simp [c72, a74, b75, c76, g77]⟩
    simp only [go_sem, seval, c72, a74, b75, c76, g77]
    repeat refine And.intro (by first | omega | (simp; done) | (simp; omega)) ?_
    refine VGdO hx (fun g80 hx => ?_) (fun g80 hx => ?_)
    · simp only [go_sem, seval, c72, a74, b75, c76, g77, g80]
      refine hK _ _ (by kernel_rfl) (by simp [c72, a74, b75, c76, g77, g80]) ?_
      clear hK K
      refine Walk.condT rfl (Walk.seq (Walk.region' rfl fun K hK => ?_))
      simp only [go_sem, seval, c72, a74, b75, c76, g77, g80]
      refine hK _ ?_
      clear hK K
      obtain ⟨z81, e82, hx⟩ := exit_elim hx
      rw [hr69 z81 e82] at hx
      obtain rfl := Option.some.inj hx
      exact Walk.ret ⟨by simp [c72, a74, b75, c76, g77, g80], by simp [c72, a74, b75, c76, g77, g80]⟩
    simp only [go_sem, seval, c72, a74, b75, c76, g77, g80]
    refine VGdO hx (fun g83 hx => ?_) (fun g83 hx => ?_)
    · obtain ⟨v15, r84, a85, b86, c87, hx⟩ := rd_elim hx
      simp only [go_sem, seval, c72, a74, b75, c76, g77, g80, g83, a85, b86, c87]
      repeat refine And.intro (by first | omega | (simp; done) | (simp; omega)) ?_
      refine hK _ _ (by kernel_rfl) (by simp [c72, a74, b75, c76, g77, g80, g83, a85, b86, c87]) ?_
      clear hK K
      refine Walk.condO rfl hx (fun c88 hx => ?_) (fun c88 hx => ?_)
      · refine Walk.seq (Walk.region' rfl fun K hK => ?_)
        simp only [go_sem, seval, c72, a74, b75, c76, g77, g80, g83, a85, b86, c87, c88]
        refine hK _ ?_
        clear hK K
        obtain ⟨z89, e90, hx⟩ := exit_elim hx
        rw [hr69 z89 e90] at hx
        obtain rfl := Option.some.inj hx
        exact Walk.ret ⟨by simp [c72, a74, b75, c76, g77, g80, g83, a85, b86, c87, c88], by simp [c72, a74, b75, c76, g77, g80, g83, a85, b86, c87, c88]⟩
      refine Walk.skip (Walk.inBlock (Walk.region' rfl fun K hK => ?_))
      simp only [go_sem, seval, c72, a74, b75, c76, g77, g80, g83, a85, b86, c87, c88]
      refine hK _ ?_
      clear hK K
      exact Walk.weaken _ (by simp [c72, a74, b75, c76, g77, g80, g83, a85, b86, c87, c88] <;> omega) (by simp [c72, a74, b75, c76, g77, g80, g83, a85, b86, c87, c88] <;> omega) (ih68 _ (cont_elim hx))
    simp only [go_sem, seval, c72, a74, b75, c76, g77, g80, g83]
    refine hK _ _ (by kernel_rfl) (by simp [c72, a74, b75, c76, g77, g80, g83]) ?_
    clear hK K
    refine Walk.condF rfl (Walk.skip (Walk.inBlock (Walk.region' rfl fun K hK => ?_)))
    simp only [go_sem, seval, c72, a74, b75, c76, g77, g80, g83]
    refine hK _ ?_
    clear hK K
    exact Walk.weaken _ (by simp [c72, a74, b75, c76, g77, g80, g83] <;> omega) (by simp [c72, a74, b75, c76, g77, g80, g83] <;> omega) (ih68 _ (cont_elim hx))
  refine Walk.exit rfl ?_
  obtain ⟨z91, e92, hx⟩ := exit_elim hx
  rw [hr69 z91 e92] at hx
  refine Walk.seq (Walk.region' rfl fun K hK => ?_)
  simp only [go_sem, seval, c72]
  refine hK _ ?_
  clear hK K
  obtain rfl := Option.some.inj hx
  exact Walk.ret ⟨by simp [c72], by simp [c72]⟩
noncomputable def ref08_Sum_l0 (v2 : List Int) (v1 : List Int) (v14 : Int) (v15 : Int) : Option ((Int × Int) ⊕ (Int)) :=
  bif decide (v15 < (v2.length : Int)) then ((rd v2 v15).bind fun v18 => (rd v1 v18).bind fun v19 => contO ((IntKind.i64.wrap (v14 + v19), IntKind.i64.wrap (v15 + 1)) : Int × Int)) else (exitO (some (v14 : Int)))
noncomputable def ref08_Sum (v1 : List Int) (v2 : List Int) : Option (Int) :=
  iter (fun g : Int × Int => ref08_Sum_l0 v2 v1 g.1 g.2) (0, 0)
theorem ref08_Sum_ok (v1 : List Int) (v2 : List Int) (r : Int) (hx : ref08_Sum v1 v2 = some r) :
    ACalls Try.prog 82 [.d (.sl (List.map iD v1)), .d (.sl (List.map iD v2))] [] (.d (.int .i64 r)) [] := by
  refine ACalls.of_sem (n := 23) 0 [4] (fn := Try.f82) Try.func82 rfl rfl (.one rfl) rfl (by simp) (by intro i; simp only [hget]; (repeat' split) <;> simp <;> omega) ?_
  unfold ref08_Sum at hx
  refine Walk.seq (Walk.region' rfl fun K hK => ?_)
  simp only [go_sem, seval]
  refine hK _ ?_
  clear hK K
  refine Walk.seq (Walk.region' rfl fun K hK => ?_)
  simp only [go_sem, seval]
  refine hK _ ?_
  clear hK K
  refine Walk.seq (Walk.seq (Walk.region' rfl fun K hK => ?_))
  simp only [go_sem, seval]
  refine hK _ ?_
  clear hK K
  refine Walk.block (Walk.loop ?_)
  refine Walk.weaken ⟨[(0, .d (.sl (List.map iD v1))), (1, .d (.sl (List.map iD v2))), (5, .d (.int .i64 0)), (6, .d (.int .i64 0))], []⟩ (by simp <;> omega) (by simp <;> omega) ?_
  refine Walk.iter (σ := Int × Int) (fun g => ⟨[(0, .d (.sl (List.map iD v1))), (1, .d (.sl (List.map iD v2))), (5, .d (.int .i64 g.1)), (6, .d (.int .i64 g.2))], []⟩) (fun g : Int × Int => ref08_Sum_l0 v2 v1 g.1 g.2) _ (fun g y75 hx ih60 hr61 => ?_) (0, 0) hx
  obtain ⟨v14, v15⟩ := g
  unfold ref08_Sum_l0 at hx
  try dsimp only at hx ⊢
  refine Walk.seq (Walk.seq (Walk.region' rfl fun K hK => ?_))
  simp only [go_sem, seval]
  refine hK _ ?_
  clear hK K
  refine Walk.condO rfl hx (fun c64 hx => ?_) (fun c64 hx => ?_)
  · refine Walk.skip (Walk.seq (Walk.block (Walk.region' rfl fun K hK => ?_)))
    obtain ⟨v18, r65, a66, b67, c68, hx⟩ := rd_elim hx
    obtain ⟨v19, r69, a70, b71, c72, hx⟩ := rd_elim hx
    simp only [go_sem, seval, c64, a66, b67, c68, a70, b71, c72]
    repeat refine And.intro (by first | omega | (simp; done) | (simp; omega)) ?_
    refine hK _ ?_
    clear hK K
    refine Walk.inBlock (Walk.region' rfl fun K hK => ?_)
    simp only [go_sem, seval, c64, a66, b67, c68, a70, b71, c72]
    refine hK _ ?_
    clear hK K
    exact Walk.weaken _ (by simp [c64, a66, b67, c68, a70, b71, c72] <;> omega) (by simp [c64, a66, b67, c68, a70, b71, c72] <;> omega) (ih60 _ (cont_elim hx))
  refine Walk.exit rfl ?_
  obtain ⟨z73, e74, hx⟩ := exit_elim hx
  rw [hr61 z73 e74] at hx
  refine Walk.seq (Walk.region' rfl fun K hK => ?_)
  simp only [go_sem, seval, c64]
  refine hK _ ?_
  clear hK K
  obtain rfl := Option.some.inj hx
  exact Walk.ret ⟨by simp [c64], by simp [c64]⟩
noncomputable def ref08_Meets_l0 (v2 : List Row) (v3 : List Int) (v22 : Int) : Option ((Int) ⊕ (Bool)) :=
  bif decide (v22 < (v2.length : Int)) then ((rd v2 v22).bind fun v25 => (ref08_Sum v25.Coefs v3).bind fun v26 => bif decide (v26 < v25.Least) then (exitO (some (false : Bool))) else (bif decide (v26 > v25.Most) then (exitO (some (false : Bool))) else (contO (IntKind.i64.wrap (v22 + 1) : Int)))) else (exitO (some (true : Bool)))
noncomputable def ref08_Meets (v1 : List Int) (v2 : List Row) (v3 : List Int) : Option (Bool) :=
  (ref08_Valid v1 v2).bind fun v18 => bif !v18 then (some (false : Bool)) else ((ref08_Choice (v1.length : Int) v3).bind fun v19 => bif !v19 then (some (false : Bool)) else (iter (fun g : Int => ref08_Meets_l0 v2 v3 g) 0))
theorem ref08_Meets_ok (v1 : List Int) (v2 : List Row) (v3 : List Int) (r : Bool) (hx : ref08_Meets v1 v2 v3 = some r) :
    ACalls Try.prog 65 [.agg [.d (.sl (List.map iD v1)), .d (.sl (List.map Row.D v2))], .d (.sl (List.map iD v3))] [] (.d (.bool r)) [] := by
  refine ACalls.of_sem (n := 51) 0 [4] (fn := Try.f65) Try.func65 rfl rfl (.one rfl) rfl (by simp) (by intro i; simp only [hget]; (repeat' split) <;> simp <;> omega) ?_
  unfold ref08_Meets at hx
  refine Walk.seq (Walk.region' rfl fun K hK => ?_)
  simp only [go_sem, seval]
  refine hK _ ?_
  clear hK K
  refine Walk.seq (Walk.seq (Walk.region' rfl fun K hK => ?_))
  obtain ⟨v18, h48, hx⟩ := bind_elim hx
  simp only [go_sem, seval]
  refine VCl.pure rfl (by simp only [go_sem, seval]; try simp) (ref08_Valid_ok v1 v2 _ h48) (by simp only [go_sem, seval]; try simp) (by simp only [go_sem, seval]; try simp) (by simp only [go_sem, seval]; try simp) (by simp only [go_sem, seval]; try simp) (by simp only [go_sem, seval]; try simp) (by simp only [go_sem, seval]; try simp) ?_
  simp only [go_sem, seval]
  refine VGdO hx (fun g49 hx => ?_) (fun g49 hx => ?_)
  · simp only [go_sem, seval, g49]
    refine hK _ ?_
    clear hK K
    refine Walk.condT rfl (Walk.seq (Walk.region' rfl fun K hK => ?_))
    simp only [go_sem, seval, g49]
    refine hK _ ?_
    clear hK K
    obtain rfl := Option.some.inj hx
    exact Walk.ret ⟨by simp [g49], by simp [g49]⟩
  obtain ⟨v19, h50, hx⟩ := bind_elim hx
  simp only [go_sem, seval, g49]
  refine VCl.pure rfl (by simp only [go_sem, seval, g49]; try simp) (ref08_Choice_ok (v1.length : Int) v3 _ h50) (by simp only [go_sem, seval, g49]; try simp) (by simp only [go_sem, seval, g49]; try simp) (by simp only [go_sem, seval, g49]; try simp) (by simp only [go_sem, seval, g49]; try simp) (by simp only [go_sem, seval, g49]; try simp) (by simp only [go_sem, seval, g49]; try simp) ?_
  simp only [go_sem, seval, g49]
  refine hK _ ?_
  clear hK K
  refine Walk.condO rfl hx (fun c52 hx => ?_) (fun c52 hx => ?_)
  · refine Walk.seq (Walk.region' rfl fun K hK => ?_)
    simp only [go_sem, seval, g49, c52]
    refine hK _ ?_
    clear hK K
    obtain rfl := Option.some.inj hx
    exact Walk.ret ⟨by simp [g49, c52], by simp [g49, c52]⟩
  refine Walk.skip (Walk.seq (Walk.seq (Walk.region' rfl fun K hK => ?_)))
  simp only [go_sem, seval, g49, c52]
  refine hK _ ?_
  clear hK K
  refine Walk.block (Walk.loop ?_)
  refine Walk.weaken ⟨[(1, .d (.sl (List.map iD v3))), (2, .box 2 0), (5, .d (.int .i64 0))], [(2, some (.box [.d (.sl (List.map iD v1)), .d (.sl (List.map Row.D v2))]))]⟩ (by simp [g49, c52] <;> omega) (by simp [g49, c52] <;> omega) ?_
  refine Walk.iter (σ := Int) (fun g => ⟨[(1, .d (.sl (List.map iD v3))), (2, .box 2 0), (5, .d (.int .i64 g))], [(2, some (.box [.d (.sl (List.map iD v1)), .d (.sl (List.map Row.D v2))]))]⟩) (fun g : Int => ref08_Meets_l0 v2 v3 g) _ (fun v22 y91 hx ih73 hr74 => ?_) 0 hx
  unfold ref08_Meets_l0 at hx
  try dsimp only at hx ⊢
  refine Walk.seq (Walk.seq (Walk.region' rfl fun K hK => ?_))
  simp only [go_sem, seval, g49, c52]
  refine hK _ ?_
  clear hK K
  refine Walk.condO rfl hx (fun c77 hx => ?_) (fun c77 hx => ?_)
  · refine Walk.skip (Walk.seq (Walk.block (Walk.seq (Walk.region' rfl fun K hK => ?_))))
    obtain ⟨v25, r78, a79, b80, c81, hx⟩ := rd_elim hx
    obtain ⟨v26, h82, hx⟩ := bind_elim hx
    simp only [go_sem, seval, g49, c52, c77, a79, b80, c81]
    repeat refine And.intro (by first | omega | (simp; done) | (simp; omega)) ?_
    refine VCl.pure rfl (by simp only [go_sem, seval, g49, c52, c77, a79, b80, c81]; try simp) (ref08_Sum_ok v25.Coefs v3 _ h82) (by simp only [go_sem, seval, g49, c52, c77, a79, b80, c81]; try simp) (by simp only [go_sem, seval, g49, c52, c77, a79, b80, c81]; try simp) (by simp only [go_sem, seval, g49, c52, c77, a79, b80, c81]; try simp) (by simp only [go_sem, seval, g49, c52, c77, a79, b80, c81]; try simp) (by simp only [go_sem, seval, g49, c52, c77, a79, b80, c81]; try simp) (by simp only [go_sem, seval, g49, c52, c77, a79, b80, c81]; try simp) ?_
    simp only [go_sem, seval, g49, c52, c77, a79, b80, c81]
    refine hK _ ?_
    clear hK K
    refine Walk.seq (Walk.region' rfl fun K hK => ?_)
    simp only [go_sem, seval, g49, c52, c77, a79, b80, c81]
    repeat refine And.intro (by first | omega | (simp; done) | (simp; omega)) ?_
    refine VGdO hx (fun g83 hx => ?_) (fun g83 hx => ?_)
    · simp only [go_sem, seval, g49, c52, c77, a79, b80, c81, g83]
      refine hK _ ?_
      clear hK K
      refine Walk.condT rfl (Walk.seq (Walk.region' rfl fun K hK => ?_))
      simp only [go_sem, seval, g49, c52, c77, a79, b80, c81, g83]
      refine hK _ ?_
      clear hK K
      obtain ⟨z84, e85, hx⟩ := exit_elim hx
      rw [hr74 z84 e85] at hx
      obtain rfl := Option.some.inj hx
      exact Walk.ret ⟨by simp [g49, c52, c77, a79, b80, c81, g83], by simp [g49, c52, c77, a79, b80, c81, g83]⟩
    simp only [go_sem, seval, g49, c52, c77, a79, b80, c81, g83]
    repeat refine And.intro (by first | omega | (simp; done) | (simp; omega)) ?_
    refine hK _ ?_
    clear hK K
    refine Walk.condO rfl hx (fun c86 hx => ?_) (fun c86 hx => ?_)
    · refine Walk.seq (Walk.region' rfl fun K hK => ?_)
      simp only [go_sem, seval, g49, c52, c77, a79, b80, c81, g83, c86]
      refine hK _ ?_
      clear hK K
      obtain ⟨z87, e88, hx⟩ := exit_elim hx
      rw [hr74 z87 e88] at hx
      obtain rfl := Option.some.inj hx
      exact Walk.ret ⟨by simp [g49, c52, c77, a79, b80, c81, g83, c86], by simp [g49, c52, c77, a79, b80, c81, g83, c86]⟩
    refine Walk.skip (Walk.inBlock (Walk.region' rfl fun K hK => ?_))
    simp only [go_sem, seval, g49, c52, c77, a79, b80, c81, g83, c86]
    refine hK _ ?_
    clear hK K
    exact Walk.weaken _ (by simp [g49, c52, c77, a79, b80, c81, g83, c86] <;> omega) (by simp [g49, c52, c77, a79, b80, c81, g83, c86] <;> omega) (ih73 _ (cont_elim hx))
  refine Walk.exit rfl ?_
  obtain ⟨z89, e90, hx⟩ := exit_elim hx
  rw [hr74 z89 e90] at hx
  refine Walk.seq (Walk.region' rfl fun K hK => ?_)
  simp only [go_sem, seval, g49, c52, c77]
  refine hK _ ?_
  clear hK K
  obtain rfl := Option.some.inj hx
  exact Walk.ret ⟨by simp [g49, c52, c77], by simp [g49, c52, c77]⟩
noncomputable def ref10_below_l1 (rec : (List Int) → (List Row) → (List Int) → Int → Option (List (List Int))) (v1 : List Int) (v3 : List Int) (v2 : List Row) (v19 : Int) (v20 : List (List Int)) : Option ((Int × List (List Int)) ⊕ (List (List Int))) :=
  bif decide (v19 < (v1.length : Int)) then (chk ((v3.length) * 8 ≤ 140737488355328) (chk ((v3.length + 1) * 8 ≤ 140737488355328) ((rec v1 v2 (v3 ++ [v19]) (IntKind.i64.wrap (v19 + 1))).bind fun v22 => chk ((v20.length + v22.length) * 24 ≤ 140737488355328) (contO ((IntKind.i64.wrap (v19 + 1), (v20 ++ v22)) : Int × List (List Int)))))) else (exitO (some (v20 : List (List Int))))
noncomputable def ref10_below_j0 (rec : (List Int) → (List Row) → (List Int) → Int → Option (List (List Int))) (v1 : List Int) (v3 : List Int) (v2 : List Row) (v4 : Int) (v17 : List (List Int)) : Option (List (List Int)) :=
  iter (fun g : Int × List (List Int) => ref10_below_l1 rec v1 v3 v2 g.1 g.2) (v4, v17)
noncomputable def ref10_below_F (rec : (List Int) → (List Row) → (List Int) → Int → Option (List (List Int))) (v1 : List Int) (v2 : List Row) (v3 : List Int) (v4 : Int) : Option (List (List Int)) :=
  (ref08_Meets v1 v2 v3).bind fun v23 => bif v23 then (ref10_below_j0 rec v1 v3 v2 v4 [v3]) else (ref10_below_j0 rec v1 v3 v2 v4 [])
theorem ref10_below_F_ok (rec : (List Int) → (List Row) → (List Int) → Int → Option (List (List Int))) (hrec : ∀ (v1 : List Int) (v2 : List Row) (v3 : List Int) (v4 : Int) (r : List (List Int)), rec v1 v2 v3 v4 = some r → ACalls Try.prog 44 [.agg [.d (.sl (List.map iD v1)), .d (.sl (List.map Row.D v2))], .d (.sl (List.map iD v3)), .d (.int .i64 v4)] [] (.arr 2000 0 r.length) [(2000, some (.arr 22 1 (List.map (lD iD) r)))]) (v1 : List Int) (v2 : List Row) (v3 : List Int) (v4 : Int) (r : List (List Int)) (hx : ref10_below_F rec v1 v2 v3 v4 = some r) :
    ACalls Try.prog 44 [.agg [.d (.sl (List.map iD v1)), .d (.sl (List.map Row.D v2))], .d (.sl (List.map iD v3)), .d (.int .i64 v4)] [] (.arr 2000 0 r.length) [(2000, some (.arr 22 1 (List.map (lD iD) r)))] := by
  refine ACalls.of_sem (n := 40) 0 [6] (fn := Try.f44) Try.func44 rfl rfl (.one rfl) rfl (by simp) (by intro i; simp only [hget]; (repeat' split) <;> simp <;> omega) ?_
  unfold ref10_below_F at hx
  refine Walk.seq (Walk.region' rfl fun K hK => ?_)
  simp only [go_sem, seval]
  refine hK _ ?_
  clear hK K
  refine Walk.seq (Walk.region' rfl fun K hK => ?_)
  simp only [go_sem, seval]
  refine hK _ ?_
  clear hK K
  refine Walk.seq (Walk.join (G := List (List Int)) (fun g => ⟨[(1, .d (.sl (List.map iD v3))), (2, .d (.int .i64 v4)), (3, .box 3 0), (7, .arr 16 0 g.length)], [(3, some (.box [.d (.sl (List.map iD v1)), .d (.sl (List.map Row.D v2))])), (16, some (.arr 22 1 (List.map (lD iD) g)))]⟩) (fun g => ref10_below_j0 rec v1 v3 v2 v4 g) hx (fun v17 hx => ?_) (fun fin49 => ?_))
  · unfold ref10_below_j0 at hx
    try dsimp only at hx ⊢
    refine Walk.seq (Walk.seq (Walk.region' rfl fun K hK => ?_))
    simp only [go_sem, seval]
    refine hK _ ?_
    clear hK K
    refine Walk.block (Walk.loop ?_)
    refine Walk.weaken ⟨[(1, .d (.sl (List.map iD v3))), (3, .box 3 0), (7, .arr 16 0 v17.length), (8, .d (.int .i64 v4))], [(3, some (.box [.d (.sl (List.map iD v1)), .d (.sl (List.map Row.D v2))])), (16, some (.arr 22 1 (List.map (lD iD) v17)))]⟩ (by simp <;> omega) (by simp <;> omega) ?_
    refine Walk.iter (σ := Int × List (List Int)) (fun g => ⟨[(1, .d (.sl (List.map iD v3))), (3, .box 3 0), (7, .arr 16 0 g.2.length), (8, .d (.int .i64 g.1))], [(3, some (.box [.d (.sl (List.map iD v1)), .d (.sl (List.map Row.D v2))])), (16, some (.arr 22 1 (List.map (lD iD) g.2)))]⟩) (fun g : Int × List (List Int) => ref10_below_l1 rec v1 v3 v2 g.1 g.2) _ (fun g y78 hx ih66 hr67 => ?_) (v4, v17) hx
    obtain ⟨v19, v20⟩ := g
    unfold ref10_below_l1 at hx
    try dsimp only at hx ⊢
    refine Walk.seq (Walk.seq (Walk.region' rfl fun K hK => ?_))
    simp only [go_sem, seval]
    refine hK _ ?_
    clear hK K
    refine Walk.condO rfl hx (fun c70 hx => ?_) (fun c70 hx => ?_)
    · refine Walk.skip (Walk.seq (Walk.block (Walk.seq (Walk.region' rfl fun K hK => ?_))))
      simp only [go_sem, seval, c70]
      refine hK _ ?_
      clear hK K
      refine Walk.seq (Walk.region' rfl fun K hK => ?_)
      obtain ⟨k71, hx⟩ := chk_elim hx
      simp only [go_sem, seval, c70, k71]
      repeat refine And.intro (by first | omega | (simp; done) | (simp; omega)) ?_
      refine hK _ ?_
      clear hK K
      refine Walk.weaken ⟨[(1, .d (.sl (List.map iD v3))), (3, .box 3 0), (7, .arr 16 0 v20.length), (8, .d (.int .i64 v19)), (9, .arr 27 0 v3.length)], [(3, some (.box [.d (.sl (List.map iD v1)), .d (.sl (List.map Row.D v2))])), (16, some (.arr 22 1 (List.map (lD iD) v20))), (27, some (.arr 3 1 (List.map iD v3)))]⟩ (by simp [c70, k71] <;> omega) (by simp [c70, k71] <;> omega) ?_
      refine Walk.seq (Walk.region' rfl fun K hK => ?_)
      obtain ⟨k72, hx⟩ := chk_elim hx
      simp only [go_sem, seval, c70, k71, k72]
      repeat refine And.intro (by first | omega | (simp; done) | (simp; omega)) ?_
      refine hK _ ?_
      clear hK K
      refine Walk.weaken ⟨[(1, .d (.sl (List.map iD v3))), (3, .box 3 0), (7, .arr 16 0 v20.length), (8, .d (.int .i64 v19)), (9, .arr 27 0 ((v3 ++ [v19]).length))], [(3, some (.box [.d (.sl (List.map iD v1)), .d (.sl (List.map Row.D v2))])), (16, some (.arr 22 1 (List.map (lD iD) v20))), (27, some (.arr 3 1 (List.map iD (v3 ++ [v19]))))]⟩ (by simp [c70, k71, k72] <;> omega) (by simp [c70, k71, k72] <;> omega) ?_
      refine Walk.weaken ⟨[(1, .d (.sl (List.map iD v3))), (3, .box 3 0), (7, .arr 16 0 v20.length), (8, .d (.int .i64 v19)), (9, .arr 27 0 ((v3 ++ [v19]).length))], [(3, some (.box [.d (.sl (List.map iD v1)), .d (.sl (List.map Row.D v2))])), (16, some (.arr 22 1 (List.map (lD iD) v20))), (27, some (.arr 3 1 (List.map iD (v3 ++ [v19]))))]⟩ (by simp [c70, k71, k72] <;> omega) (by simp [c70, k71, k72] <;> omega) ?_
      refine Walk.freeze 27 3 1 (List.map iD (v3 ++ [v19])) [(1, .d (.sl (List.map iD v3))), (3, .box 3 0), (7, .arr 16 0 v20.length), (8, .d (.int .i64 v19)), (9, .d (.sl (List.map iD (v3 ++ [v19]))))] [(3, some (.box [.d (.sl (List.map iD v1)), .d (.sl (List.map Row.D v2))])), (16, some (.arr 22 1 (List.map (lD iD) v20)))] (by simp) (by simp) (by simp) ?_
      refine Walk.region' rfl fun K hK => ?_
      obtain ⟨v22, h73, hx⟩ := bind_elim hx
      have w74 := ((hrec v1 v2 (v3 ++ [v19]) (IntKind.i64.wrap (v19 + 1)) _ h73).swap 2000 1006)
      simp only [renE, renL, AV.ren, AV.rens, AObj.ren, swp, Option.map_some, reduceIte, Nat.reduceEqDiff] at w74
      simp only [go_sem, seval, c70, k71, k72]
      refine VCl.pure rfl (by simp only [go_sem, seval, c70, k71, k72]; try simp) (w74) (by simp only [go_sem, seval, c70, k71, k72]; try simp) (by simp only [go_sem, seval, c70, k71, k72]; try simp) (by simp only [go_sem, seval, c70, k71, k72]; try simp) (by simp only [go_sem, seval, c70, k71, k72]; try simp) (by simp only [go_sem, seval, c70, k71, k72]; try simp) (by simp only [go_sem, seval, c70, k71, k72]; try simp) ?_
      obtain ⟨k75, hx⟩ := chk_elim hx
      simp only [go_sem, seval, c70, k71, k72, k75]
      repeat refine And.intro (by first | omega | (simp; done) | (simp; omega)) ?_
      refine hK _ ?_
      clear hK K
      refine Walk.weaken ⟨[(1, .d (.sl (List.map iD v3))), (3, .box 3 0), (7, .arr 16 0 ((v20 ++ v22).length)), (8, .d (.int .i64 v19))], [(3, some (.box [.d (.sl (List.map iD v1)), .d (.sl (List.map Row.D v2))])), (16, some (.arr 22 1 (List.map (lD iD) (v20 ++ v22))))]⟩ (by simp [c70, k71, k72, k75] <;> omega) (by simp [c70, k71, k72, k75] <;> omega) ?_
      refine Walk.inBlock (Walk.region' rfl fun K hK => ?_)
      simp only [go_sem, seval, c70, k71, k72, k75]
      refine hK _ ?_
      clear hK K
      exact Walk.weaken _ (by simp [c70, k71, k72, k75] <;> omega) (by simp [c70, k71, k72, k75] <;> omega) (ih66 _ (cont_elim hx))
    refine Walk.exit rfl ?_
    obtain ⟨z76, e77, hx⟩ := exit_elim hx
    rw [hr67 z76 e77] at hx
    refine Walk.seq (Walk.region' rfl fun K hK => ?_)
    simp only [go_sem, seval, c70]
    refine hK _ ?_
    clear hK K
    refine Walk.weaken ⟨[(6, .arr 16 0 v20.length)], [(16, some (.arr 22 1 (List.map (lD iD) v20)))]⟩ (by simp [c70] <;> omega) (by simp [c70] <;> omega) ?_
    refine Walk.rename 16 2000 (by omega) (by omega) (by simp) (by simp) ?_
    simp only [renE, renL, AV.ren, AV.rens, AObj.ren, swp, Option.map_some, reduceIte, Nat.reduceEqDiff]
    obtain rfl := Option.some.inj hx
    exact Walk.ret ⟨by simp [c70], by simp [c70]⟩
  refine Walk.seq (Walk.region' rfl fun K hK => ?_)
  obtain ⟨v23, h79, hx⟩ := bind_elim hx
  simp only [go_sem, seval]
  refine VCl.pure rfl (by simp only [go_sem, seval]; try simp) (ref08_Meets_ok v1 v2 v3 _ h79) (by simp only [go_sem, seval]; try simp) (by simp only [go_sem, seval]; try simp) (by simp only [go_sem, seval]; try simp) (by simp only [go_sem, seval]; try simp) (by simp only [go_sem, seval]; try simp) (by simp only [go_sem, seval]; try simp) ?_
  simp only [go_sem, seval]
  refine hK _ ?_
  clear hK K
  refine Walk.condO rfl hx (fun c80 hx => ?_) (fun c80 hx => ?_)
  · refine Walk.region' rfl fun K hK => ?_
    simp only [go_sem, seval, c80]
    refine hK _ ?_
    clear hK K
    refine Walk.weaken ⟨[(1, .d (.sl (List.map iD v3))), (2, .d (.int .i64 v4)), (3, .box 3 0), (7, .arr 16 0 1)], [(3, some (.box [.d (.sl (List.map iD v1)), .d (.sl (List.map Row.D v2))])), (16, some (.arr 22 1 (List.map (lD iD) [v3])))]⟩ (by simp [c80] <;> omega) (by simp [c80] <;> omega) ?_
    exact Walk.weaken _ (by simp [c80] <;> omega) (by simp [c80] <;> omega) (fin49 [v3] hx)
  refine Walk.skip ?_
  refine Walk.weaken ⟨[(1, .d (.sl (List.map iD v3))), (2, .d (.int .i64 v4)), (3, .box 3 0), (7, .nils)], [(3, some (.box [.d (.sl (List.map iD v1)), .d (.sl (List.map Row.D v2))]))]⟩ (by simp [c80] <;> omega) (by simp [c80] <;> omega) ?_
  refine Walk.up 16 22 1 [(1, .d (.sl (List.map iD v3))), (2, .d (.int .i64 v4)), (3, .box 3 0), (7, .arr 16 0 0)] [(3, some (.box [.d (.sl (List.map iD v1)), .d (.sl (List.map Row.D v2))]))] (by simp) (by simp) (by omega) (by simp) (by simp) (by simp) ?_
  exact Walk.weaken _ (by simp [c80] <;> omega) (by simp [c80] <;> omega) (fin49 [] hx)
theorem ref10_below_l1_mono {rec rec' : (List Int) → (List Row) → (List Int) → Int → Option (List (List Int))} (h : ∀ (v1 : List Int) (v2 : List Row) (v3 : List Int) (v4 : Int), Ole (rec v1 v2 v3 v4) (rec' v1 v2 v3 v4)) (v1 : List Int) (v3 : List Int) (v2 : List Row) (v19 : Int) (v20 : List (List Int)) : Ole (ref10_below_l1 rec v1 v3 v2 v19 v20) (ref10_below_l1 rec' v1 v3 v2 v19 v20) := by
  unfold ref10_below_l1
  repeat (first | with_reducible exact Ole.refl _ | exact h _ _ _ _ | refine Ole.bind ?_ fun _ => ?_ | refine Ole.bif ?_ ?_ | refine Ole.chk ?_ | refine Ole.exit ?_ | refine Ole.iter fun _ => ?_)
theorem ref10_below_j0_mono {rec rec' : (List Int) → (List Row) → (List Int) → Int → Option (List (List Int))} (h : ∀ (v1 : List Int) (v2 : List Row) (v3 : List Int) (v4 : Int), Ole (rec v1 v2 v3 v4) (rec' v1 v2 v3 v4)) (v1 : List Int) (v3 : List Int) (v2 : List Row) (v4 : Int) (v17 : List (List Int)) : Ole (ref10_below_j0 rec v1 v3 v2 v4 v17) (ref10_below_j0 rec' v1 v3 v2 v4 v17) := by
  unfold ref10_below_j0
  repeat (first | with_reducible exact Ole.refl _ | exact h _ _ _ _ | exact ref10_below_l1_mono h _ _ _ _ _ | refine Ole.bind ?_ fun _ => ?_ | refine Ole.bif ?_ ?_ | refine Ole.chk ?_ | refine Ole.exit ?_ | refine Ole.iter fun _ => ?_)
theorem ref10_below_F_mono {rec rec' : (List Int) → (List Row) → (List Int) → Int → Option (List (List Int))} (h : ∀ (v1 : List Int) (v2 : List Row) (v3 : List Int) (v4 : Int), Ole (rec v1 v2 v3 v4) (rec' v1 v2 v3 v4)) (v1 : List Int) (v2 : List Row) (v3 : List Int) (v4 : Int) : Ole (ref10_below_F rec v1 v2 v3 v4) (ref10_below_F rec' v1 v2 v3 v4) := by
  unfold ref10_below_F
  repeat (first | with_reducible exact Ole.refl _ | exact h _ _ _ _ | exact ref10_below_l1_mono h _ _ _ _ _ | exact ref10_below_j0_mono h _ _ _ _ _ | refine Ole.bind ?_ fun _ => ?_ | refine Ole.bif ?_ ?_ | refine Ole.chk ?_ | refine Ole.exit ?_ | refine Ole.iter fun _ => ?_)
noncomputable def ref10_below_n : Nat → (List Int) → (List Row) → (List Int) → Int → Option (List (List Int))
  | 0 => fun _ _ _ _ => none
  | k + 1 => ref10_below_F (ref10_below_n k)
theorem ref10_below_n_ok : ∀ (k : Nat) (v1 : List Int) (v2 : List Row) (v3 : List Int) (v4 : Int) (r : List (List Int)), ref10_below_n k v1 v2 v3 v4 = some r → ACalls Try.prog 44 [.agg [.d (.sl (List.map iD v1)), .d (.sl (List.map Row.D v2))], .d (.sl (List.map iD v3)), .d (.int .i64 v4)] [] (.arr 2000 0 r.length) [(2000, some (.arr 22 1 (List.map (lD iD) r)))]
  | 0, _, _, _, _, _, h => by simp [ref10_below_n] at h
  | k + 1, v1, v2, v3, v4, r, h => ref10_below_F_ok (ref10_below_n k) (ref10_below_n_ok k) v1 v2 v3 v4 r h
theorem ref10_below_n_mono : ∀ (k : Nat) (v1 : List Int) (v2 : List Row) (v3 : List Int) (v4 : Int), Ole (ref10_below_n k v1 v2 v3 v4) (ref10_below_n (k + 1) v1 v2 v3 v4)
  | 0, _, _, _, _ => fun r h => by simp [ref10_below_n] at h
  | k + 1, v1, v2, v3, v4 => ref10_below_F_mono (ref10_below_n_mono k) v1 v2 v3 v4
noncomputable def ref10_below (v1 : List Int) (v2 : List Row) (v3 : List Int) (v4 : Int) : Option (List (List Int)) := fixO fun k => ref10_below_n k v1 v2 v3 v4
theorem ref10_below_ok (v1 : List Int) (v2 : List Row) (v3 : List Int) (v4 : Int) (r : List (List Int)) (hx : ref10_below v1 v2 v3 v4 = some r) : ACalls Try.prog 44 [.agg [.d (.sl (List.map iD v1)), .d (.sl (List.map Row.D v2))], .d (.sl (List.map iD v3)), .d (.int .i64 v4)] [] (.arr 2000 0 r.length) [(2000, some (.arr 22 1 (List.map (lD iD) r)))] := by
  obtain ⟨k, hk⟩ := fixO_some hx
  exact ref10_below_n_ok k v1 v2 v3 v4 r hk
theorem ref10_below_eq (k : Nat) (v1 : List Int) (v2 : List Row) (v3 : List Int) (v4 : Int) (r : List (List Int)) (hk : ref10_below_n k v1 v2 v3 v4 = some r) : ref10_below v1 v2 v3 v4 = some r := fixO_eq (fun k => ref10_below_n_mono k v1 v2 v3 v4) hk
noncomputable def ref10_All (v1 : List Int) (v2 : List Row) : Option (List (List Int) × Int) :=
  (ref08_Valid v1 v2).bind fun v7 => bif !v7 then (some (([], 1) : List (List Int) × Int)) else ((ref10_below v1 v2 [] 0).bind fun v8 => some ((v8, 0) : List (List Int) × Int))
theorem ref10_All_ok (v1 : List Int) (v2 : List Row) (r : List (List Int) × Int) (hx : ref10_All v1 v2 = some r) :
    ACalls Try.prog 14 [.agg [.d (.sl (List.map iD v1)), .d (.sl (List.map Row.D v2))]] [] (.tup [.arr 2000 0 r.1.length, .d (.int .i64 r.2)]) [(2000, some (.arr 22 1 (List.map (lD iD) r.1)))] := by
  refine ACalls.of_sem (n := 9) 0 [2, 3] (fn := Try.f14) Try.func14 rfl rfl (.two rfl) rfl (by simp) (by intro i; simp only [hget]; (repeat' split) <;> simp <;> omega) ?_
  unfold ref10_All at hx
  refine Walk.seq (Walk.region' rfl fun K hK => ?_)
  simp only [go_sem, seval]
  refine hK _ ?_
  clear hK K
  refine Walk.seq (Walk.seq (Walk.region' rfl fun K hK => ?_))
  obtain ⟨v7, h5, hx⟩ := bind_elim hx
  simp only [go_sem, seval]
  refine VCl.pure rfl (by simp only [go_sem, seval]; try simp) (ref08_Valid_ok v1 v2 _ h5) (by simp only [go_sem, seval]; try simp) (by simp only [go_sem, seval]; try simp) (by simp only [go_sem, seval]; try simp) (by simp only [go_sem, seval]; try simp) (by simp only [go_sem, seval]; try simp) (by simp only [go_sem, seval]; try simp) ?_
  simp only [go_sem, seval]
  refine hK _ ?_
  clear hK K
  refine Walk.condO rfl hx (fun c6 hx => ?_) (fun c6 hx => ?_)
  · refine Walk.seq (Walk.region' rfl fun K hK => ?_)
    simp only [go_sem, seval, c6]
    refine hK _ ?_
    clear hK K
    refine Walk.weaken ⟨[(2, .nils), (3, .d (.int .i64 1))], []⟩ (by simp [c6] <;> omega) (by simp [c6] <;> omega) ?_
    refine Walk.up 2000 22 1 [(2, .arr 2000 0 0), (3, .d (.int .i64 1))] [] (by simp) (by simp) (by omega) (by simp) (by simp) (by simp) ?_
    obtain rfl := Option.some.inj hx
    exact Walk.ret ⟨by simp [c6], by simp [c6]⟩
  refine Walk.skip (Walk.seq (Walk.region' rfl fun K hK => ?_))
  obtain ⟨v8, h7, hx⟩ := bind_elim hx
  have w8 := ((ref10_below_ok v1 v2 [] 0 _ h7).swap 2000 1003)
  simp only [renE, renL, AV.ren, AV.rens, AObj.ren, swp, Option.map_some, reduceIte, Nat.reduceEqDiff] at w8
  simp only [go_sem, seval, c6]
  refine VCl.pure rfl (by simp only [go_sem, seval, c6]; try simp) (w8) (by simp only [go_sem, seval, c6]; try simp) (by simp only [go_sem, seval, c6]; try simp) (by simp only [go_sem, seval, c6]; try simp) (by simp only [go_sem, seval, c6]; try simp) (by simp only [go_sem, seval, c6]; try simp) (by simp only [go_sem, seval, c6]; try simp) ?_
  simp only [go_sem, seval, c6]
  refine hK _ ?_
  clear hK K
  refine Walk.weaken ⟨[(2, .arr 1003 0 v8.length), (3, .d (.int .i64 0))], [(1003, some (.arr 22 1 (List.map (lD iD) v8)))]⟩ (by simp [c6] <;> omega) (by simp [c6] <;> omega) ?_
  refine Walk.weaken ⟨[(2, .arr 1003 0 v8.length), (3, .d (.int .i64 0))], [(1003, some (.arr 22 1 (List.map (lD iD) v8)))]⟩ (by simp [c6] <;> omega) (by simp [c6] <;> omega) ?_
  refine Walk.rename 1003 2000 (by omega) (by omega) (by simp) (by simp) ?_
  simp only [renE, renL, AV.ren, AV.rens, AObj.ren, swp, Option.map_some, reduceIte, Nat.reduceEqDiff]
  obtain rfl := Option.some.inj hx
  exact Walk.ret ⟨by simp [c6], by simp [c6]⟩
noncomputable def ref06_Ints_l0 (v1 : List Int) (v2 : List Int) (v13 : Int) : Option ((Int) ⊕ (Bool)) :=
  bif decide (v13 < (v1.length : Int)) then ((rd v1 v13).bind fun v16 => (rd v2 v13).bind fun v17 => bif decide (¬ v16 = v17) then (exitO (some (false : Bool))) else (contO (IntKind.i64.wrap (v13 + 1) : Int))) else (exitO (some (true : Bool)))
noncomputable def ref06_Ints (v1 : List Int) (v2 : List Int) : Option (Bool) :=
  bif decide (¬ (v1.length : Int) = (v2.length : Int)) then (some (false : Bool)) else (iter (fun g : Int => ref06_Ints_l0 v1 v2 g) 0)
theorem ref06_Ints_ok (v1 : List Int) (v2 : List Int) (r : Bool) (hx : ref06_Ints v1 v2 = some r) :
    ACalls Try.prog 15 [.d (.sl (List.map iD v1)), .d (.sl (List.map iD v2))] [] (.d (.bool r)) [] := by
  refine ACalls.of_sem (n := 26) 0 [4] (fn := Try.f15) Try.func15 rfl rfl (.one rfl) rfl (by simp) (by intro i; simp only [hget]; (repeat' split) <;> simp <;> omega) ?_
  unfold ref06_Ints at hx
  refine Walk.seq (Walk.region' rfl fun K hK => ?_)
  simp only [go_sem, seval]
  refine hK _ ?_
  clear hK K
  refine Walk.seq (Walk.seq (Walk.region' rfl fun K hK => ?_))
  simp only [go_sem, seval]
  refine hK _ ?_
  clear hK K
  refine Walk.condO rfl hx (fun c46 hx => ?_) (fun c46 hx => ?_)
  · refine Walk.seq (Walk.region' rfl fun K hK => ?_)
    simp only [go_sem, seval, c46]
    refine hK _ ?_
    clear hK K
    obtain rfl := Option.some.inj hx
    exact Walk.ret ⟨by simp [c46], by simp [c46]⟩
  refine Walk.skip (Walk.seq (Walk.seq (Walk.region' rfl fun K hK => ?_)))
  simp only [go_sem, seval, c46]
  refine hK _ ?_
  clear hK K
  refine Walk.block (Walk.loop ?_)
  refine Walk.weaken ⟨[(0, .d (.sl (List.map iD v1))), (1, .d (.sl (List.map iD v2))), (5, .d (.int .i64 0))], []⟩ (by simp [c46] <;> omega) (by simp [c46] <;> omega) ?_
  refine Walk.iter (σ := Int) (fun g => ⟨[(0, .d (.sl (List.map iD v1))), (1, .d (.sl (List.map iD v2))), (5, .d (.int .i64 g))], []⟩) (fun g : Int => ref06_Ints_l0 v1 v2 g) _ (fun v13 y89 hx ih71 hr72 => ?_) 0 hx
  unfold ref06_Ints_l0 at hx
  try dsimp only at hx ⊢
  refine Walk.seq (Walk.seq (Walk.region' rfl fun K hK => ?_))
  simp only [go_sem, seval, c46]
  refine hK _ ?_
  clear hK K
  refine Walk.condO rfl hx (fun c75 hx => ?_) (fun c75 hx => ?_)
  · refine Walk.skip (Walk.seq (Walk.block (Walk.seq (Walk.drawn' rfl mixed fun K hK => ?_))))
    obtain ⟨v16, r76, a77, b78, c79, hx⟩ := rd_elim hx
    obtain ⟨v17, r80, a81, b82, c83, hx⟩ := rd_elim hx
    simp only [go_sem, seval, c46, c75, a77, b78, c79, a81, b82, c83]
    repeat refine And.intro (by first | omega | (simp; done) | (simp; omega)) ?_
    refine hK _ _ (by kernel_rfl) (by simp [c46, c75, a77, b78, c79, a81, b82, c83]) ?_
    clear hK K
    refine Walk.condO rfl hx (fun c84 hx => ?_) (fun c84 hx => ?_)
    · refine Walk.seq (Walk.region' rfl fun K hK => ?_)
      simp only [go_sem, seval, c46, c75, a77, b78, c79, a81, b82, c83, c84]
      refine hK _ ?_
      clear hK K
      obtain ⟨z85, e86, hx⟩ := exit_elim hx
      rw [hr72 z85 e86] at hx
      obtain rfl := Option.some.inj hx
      exact Walk.ret ⟨by simp [c46, c75, a77, b78, c79, a81, b82, c83, c84], by simp [c46, c75, a77, b78, c79, a81, b82, c83, c84]⟩
    refine Walk.skip (Walk.inBlock (Walk.region' rfl fun K hK => ?_))
    simp only [go_sem, seval, c46, c75, a77, b78, c79, a81, b82, c83, c84]
    refine hK _ ?_
    clear hK K
    exact Walk.weaken _ (by simp [c46, c75, a77, b78, c79, a81, b82, c83, c84] <;> omega) (by simp [c46, c75, a77, b78, c79, a81, b82, c83, c84] <;> omega) (ih71 _ (cont_elim hx))
  refine Walk.exit rfl ?_
  obtain ⟨z87, e88, hx⟩ := exit_elim hx
  rw [hr72 z87 e88] at hx
  refine Walk.seq (Walk.region' rfl fun K hK => ?_)
  simp only [go_sem, seval, c46, c75]
  refine hK _ ?_
  clear hK K
  obtain rfl := Option.some.inj hx
  exact Walk.ret ⟨by simp [c46, c75], by simp [c46, c75]⟩
noncomputable def blueprint_ascending_l0 (v1 : List Int) (v8 : Int) : Option ((Int) ⊕ (Bool)) :=
  bif decide (v8 < (v1.length : Int)) then (bif decide (v8 > 0) then ((rd v1 (IntKind.i64.wrap (v8 - 1))).bind fun v11 => (rd v1 v8).bind fun v12 => bif decide (v11 ≥ v12) then (exitO (some (false : Bool))) else (contO (IntKind.i64.wrap (v8 + 1) : Int))) else (contO (IntKind.i64.wrap (v8 + 1) : Int))) else (exitO (some (true : Bool)))
noncomputable def blueprint_ascending (v1 : List Int) : Option (Bool) :=
  iter (fun g : Int => blueprint_ascending_l0 v1 g) 0
theorem blueprint_ascending_ok (v1 : List Int) (r : Bool) (hx : blueprint_ascending v1 = some r) :
    ACalls Try.prog 70 [.d (.sl (List.map iD v1))] [] (.d (.bool r)) [] := by
  refine ACalls.of_sem (n := 24) 0 [2] (fn := Try.f70) Try.func70 rfl rfl (.one rfl) rfl (by simp) (by intro i; simp only [hget]; (repeat' split) <;> simp <;> omega) ?_
  unfold blueprint_ascending at hx
  refine Walk.seq (Walk.region' rfl fun K hK => ?_)
  simp only [go_sem, seval]
  refine hK _ ?_
  clear hK K
  refine Walk.seq (Walk.seq (Walk.region' rfl fun K hK => ?_))
  simp only [go_sem, seval]
  refine hK _ ?_
  clear hK K
  refine Walk.block (Walk.loop ?_)
  refine Walk.weaken ⟨[(0, .d (.sl (List.map iD v1))), (5, .d (.int .i64 (v1.length : Int))), (6, .d (.int .i64 0))], []⟩ (by simp <;> omega) (by simp <;> omega) ?_
  refine Walk.iter (σ := Int) (fun g => ⟨[(0, .d (.sl (List.map iD v1))), (5, .d (.int .i64 (v1.length : Int))), (6, .d (.int .i64 g))], []⟩) (fun g : Int => blueprint_ascending_l0 v1 g) _ (fun v8 y63 hx ih45 hr46 => ?_) 0 hx
  unfold blueprint_ascending_l0 at hx
  try dsimp only at hx ⊢
  refine Walk.seq (Walk.region' rfl fun K hK => ?_)
  simp only [go_sem, seval]
  refine hK _ ?_
  clear hK K
  refine Walk.seq (Walk.condO rfl hx (fun c48 hx => ?_) (fun c48 hx => ?_))
  · refine Walk.skip (Walk.seq (Walk.block (Walk.seq (Walk.region' rfl fun K hK => ?_))))
    simp only [go_sem, seval, c48]
    refine hK _ ?_
    clear hK K
    refine Walk.seq (Walk.drawn' rfl mixed fun K hK => ?_)
    simp only [go_sem, seval, c48]
    refine VGdO hx (fun g49 hx => ?_) (fun g49 hx => ?_)
    · obtain ⟨v11, r50, a51, b52, c53, hx⟩ := rd_elim hx
      obtain ⟨v12, r54, a55, b56, c57, hx⟩ := rd_elim hx
      simp only [go_sem, seval, c48, g49, a51, b52, c53, a55, b56, c57]
      repeat refine And.intro (by first | omega | (simp; done) | (simp; omega)) ?_
      refine hK _ _ (by kernel_rfl) (by simp [c48, g49, a51, b52, c53, a55, b56, c57]) ?_
      clear hK K
      refine Walk.condO rfl hx (fun c58 hx => ?_) (fun c58 hx => ?_)
      · refine Walk.seq (Walk.region' rfl fun K hK => ?_)
        simp only [go_sem, seval, c48, g49, a51, b52, c53, a55, b56, c57, c58]
        refine hK _ ?_
        clear hK K
        obtain ⟨z59, e60, hx⟩ := exit_elim hx
        rw [hr46 z59 e60] at hx
        obtain rfl := Option.some.inj hx
        exact Walk.ret ⟨by simp [c48, g49, a51, b52, c53, a55, b56, c57, c58], by simp [c48, g49, a51, b52, c53, a55, b56, c57, c58]⟩
      refine Walk.skip (Walk.inBlock (Walk.region' rfl fun K hK => ?_))
      simp only [go_sem, seval, c48, g49, a51, b52, c53, a55, b56, c57, c58]
      refine hK _ ?_
      clear hK K
      exact Walk.weaken _ (by simp [c48, g49, a51, b52, c53, a55, b56, c57, c58] <;> omega) (by simp [c48, g49, a51, b52, c53, a55, b56, c57, c58] <;> omega) (ih45 _ (cont_elim hx))
    simp only [go_sem, seval, c48, g49]
    refine hK _ _ (by kernel_rfl) (by simp [c48, g49]) ?_
    clear hK K
    refine Walk.condF rfl (Walk.skip (Walk.inBlock (Walk.region' rfl fun K hK => ?_)))
    simp only [go_sem, seval, c48, g49]
    refine hK _ ?_
    clear hK K
    exact Walk.weaken _ (by simp [c48, g49] <;> omega) (by simp [c48, g49] <;> omega) (ih45 _ (cont_elim hx))
  refine Walk.exit rfl ?_
  obtain ⟨z61, e62, hx⟩ := exit_elim hx
  rw [hr46 z61 e62] at hx
  refine Walk.seq (Walk.region' rfl fun K hK => ?_)
  simp only [go_sem, seval, c48]
  refine hK _ ?_
  clear hK K
  obtain rfl := Option.some.inj hx
  exact Walk.ret ⟨by simp [c48], by simp [c48]⟩
noncomputable def blueprint_choice (v1 : List Int) (v2 : Int) : Option (Bool) :=
  (blueprint_ascending v1).bind fun v6 => bif v6 then ((blueprint_in (IntKind.i64.wrap (v2 - 1)) v1).bind fun v7 => some (v7 : Bool)) else (some (false : Bool))
theorem blueprint_choice_ok (v1 : List Int) (v2 : Int) (r : Bool) (hx : blueprint_choice v1 v2 = some r) :
    ACalls Try.prog 56 [.d (.sl (List.map iD v1)), .d (.int .i64 v2)] [] (.d (.bool r)) [] := by
  refine ACalls.of_sem (n := 13) 0 [4] (fn := Try.f56) Try.func56 rfl rfl (.one rfl) rfl (by simp) (by intro i; simp only [hget]; (repeat' split) <;> simp <;> omega) ?_
  unfold blueprint_choice at hx
  refine Walk.seq (Walk.region' rfl fun K hK => ?_)
  simp only [go_sem, seval]
  refine hK _ ?_
  clear hK K
  refine Walk.seq (Walk.region' rfl fun K hK => ?_)
  obtain ⟨v6, h4, hx⟩ := bind_elim hx
  simp only [go_sem, seval]
  refine VCl.pure rfl (by simp only [go_sem, seval]; try simp) (blueprint_ascending_ok v1 _ h4) (by simp only [go_sem, seval]; try simp) (by simp only [go_sem, seval]; try simp) (by simp only [go_sem, seval]; try simp) (by simp only [go_sem, seval]; try simp) (by simp only [go_sem, seval]; try simp) (by simp only [go_sem, seval]; try simp) ?_
  simp only [go_sem, seval]
  refine VGdO hx (fun g5 hx => ?_) (fun g5 hx => ?_)
  · obtain ⟨v7, h6, hx⟩ := bind_elim hx
    simp only [go_sem, seval, g5]
    refine VCl.pure rfl (by simp only [go_sem, seval, g5]; try simp) (blueprint_in_ok (IntKind.i64.wrap (v2 - 1)) v1 _ h6) (by simp only [go_sem, seval, g5]; try simp) (by simp only [go_sem, seval, g5]; try simp) (by simp only [go_sem, seval, g5]; try simp) (by simp only [go_sem, seval, g5]; try simp) (by simp only [go_sem, seval, g5]; try simp) (by simp only [go_sem, seval, g5]; try simp) ?_
    simp only [go_sem, seval, g5]
    refine hK _ ?_
    clear hK K
    obtain rfl := Option.some.inj hx
    exact Walk.ret ⟨by simp [g5], by simp [g5]⟩
  simp only [go_sem, seval, g5]
  refine hK _ ?_
  clear hK K
  obtain rfl := Option.some.inj hx
  exact Walk.ret ⟨by simp [g5], by simp [g5]⟩
noncomputable def blueprint_sum_l0 (v2 : List Int) (v1 : List Int) (v14 : Int) (v15 : Int) : Option ((Int × Int) ⊕ (Int)) :=
  bif decide (v15 < (v2.length : Int)) then ((rd v2 v15).bind fun v18 => (rd v1 v18).bind fun v19 => contO ((IntKind.i64.wrap (v14 + v19), IntKind.i64.wrap (v15 + 1)) : Int × Int)) else (exitO (some (v14 : Int)))
noncomputable def blueprint_sum (v1 : List Int) (v2 : List Int) : Option (Int) :=
  iter (fun g : Int × Int => blueprint_sum_l0 v2 v1 g.1 g.2) (0, 0)
theorem blueprint_sum_ok (v1 : List Int) (v2 : List Int) (r : Int) (hx : blueprint_sum v1 v2 = some r) :
    ACalls Try.prog 57 [.d (.sl (List.map iD v1)), .d (.sl (List.map iD v2))] [] (.d (.int .i64 r)) [] := by
  refine ACalls.of_sem (n := 22) 0 [4] (fn := Try.f57) Try.func57 rfl rfl (.one rfl) rfl (by simp) (by intro i; simp only [hget]; (repeat' split) <;> simp <;> omega) ?_
  unfold blueprint_sum at hx
  refine Walk.seq (Walk.region' rfl fun K hK => ?_)
  simp only [go_sem, seval]
  refine hK _ ?_
  clear hK K
  refine Walk.seq (Walk.region' rfl fun K hK => ?_)
  simp only [go_sem, seval]
  refine hK _ ?_
  clear hK K
  refine Walk.seq (Walk.seq (Walk.region' rfl fun K hK => ?_))
  simp only [go_sem, seval]
  refine hK _ ?_
  clear hK K
  refine Walk.block (Walk.loop ?_)
  refine Walk.weaken ⟨[(0, .d (.sl (List.map iD v1))), (5, .d (.int .i64 0)), (8, .d (.sl (List.map iD v2))), (9, .d (.int .i64 (v2.length : Int))), (10, .d (.int .i64 0))], []⟩ (by simp <;> omega) (by simp <;> omega) ?_
  refine Walk.iter (σ := Int × Int) (fun g => ⟨[(0, .d (.sl (List.map iD v1))), (5, .d (.int .i64 g.1)), (8, .d (.sl (List.map iD v2))), (9, .d (.int .i64 (v2.length : Int))), (10, .d (.int .i64 g.2))], []⟩) (fun g : Int × Int => blueprint_sum_l0 v2 v1 g.1 g.2) _ (fun g y69 hx ih55 hr56 => ?_) (0, 0) hx
  obtain ⟨v14, v15⟩ := g
  unfold blueprint_sum_l0 at hx
  try dsimp only at hx ⊢
  refine Walk.seq (Walk.region' rfl fun K hK => ?_)
  simp only [go_sem, seval]
  refine hK _ ?_
  clear hK K
  refine Walk.seq (Walk.condO rfl hx (fun c58 hx => ?_) (fun c58 hx => ?_))
  · refine Walk.skip (Walk.seq (Walk.block (Walk.seq (Walk.region' rfl fun K hK => ?_))))
    obtain ⟨v18, r59, a60, b61, c62, hx⟩ := rd_elim hx
    simp only [go_sem, seval, c58, a60, b61, c62]
    repeat refine And.intro (by first | omega | (simp; done) | (simp; omega)) ?_
    refine hK _ ?_
    clear hK K
    refine Walk.region' rfl fun K hK => ?_
    obtain ⟨v19, r63, a64, b65, c66, hx⟩ := rd_elim hx
    simp only [go_sem, seval, c58, a60, b61, c62, a64, b65, c66]
    repeat refine And.intro (by first | omega | (simp; done) | (simp; omega)) ?_
    refine hK _ ?_
    clear hK K
    refine Walk.inBlock (Walk.region' rfl fun K hK => ?_)
    simp only [go_sem, seval, c58, a60, b61, c62, a64, b65, c66]
    refine hK _ ?_
    clear hK K
    exact Walk.weaken _ (by simp [c58, a60, b61, c62, a64, b65, c66] <;> omega) (by simp [c58, a60, b61, c62, a64, b65, c66] <;> omega) (ih55 _ (cont_elim hx))
  refine Walk.exit rfl ?_
  obtain ⟨z67, e68, hx⟩ := exit_elim hx
  rw [hr56 z67 e68] at hx
  refine Walk.seq (Walk.region' rfl fun K hK => ?_)
  simp only [go_sem, seval, c58]
  refine hK _ ?_
  clear hK K
  obtain rfl := Option.some.inj hx
  exact Walk.ret ⟨by simp [c58], by simp [c58]⟩
end Go.AX

