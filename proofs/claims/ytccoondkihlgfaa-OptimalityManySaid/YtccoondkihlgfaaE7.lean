import Derived.Test.YtccoondkihlgfaaE6
set_option linter.unusedVariables false
set_option linter.unusedSimpArgs false
set_option maxRecDepth 20000
set_option maxHeartbeats 4000000
namespace Go.AX
open Go.Proofs
attribute [local simp] spl_len take_snoc take_cons_drop cons_rep cons_tail iA bA take_set_len idsL_rep idsL_iA idsL_bA idsL_sA idsL_set_mem idsL_sub sA_def List.map_replicate frVs_setS frVs_self frV_arr take_map_len subE subH eget hget upE upV upH upO_refl upO_box upVs freshE freshH freshO AV.ids AV.idsL ids_box ids_arr frE frV_refl frV_arr frH frO_refl frO_box frVs newOk evalA AV.viewXs AV.viewX AV.viewXP AV.viewXPs AV.viewPs AV.viewP AV.flat AV.flatL D.flat arrsOnly flatObjs newNames subOf closedIn allSome dstOk newOrOld avD avDp zv_i64 zv_u8 zv_bool zv_nils zv_nilp zv_str retAV aLoad cut TI.isAgg nlE nlH nlO_refl nlO_box nlVs nlV_refl nlV_nil iD uD bD tD lD List.map_set ti2 ti3 ti4 ti5 ti6 ti7 ti8 ti9 ti10 ti11 ti12 ti13 ti14 ti15 ti16 ti17 ti18 ti19 ti21 ti22 ti23 ti25 ti26 ti27 ti32 ti33 ti34 ti41 ti42 ti50 ti51 ti56 ti60 ti61 ti63 ti64 ti74 ti76 ti89 ti92 ti96 ti97 ti98 ti99 ti100 ti101 ti102 ti104 ti105 ti106 ti107 ti108 Row.D Node.D
attribute [local go_sem] V1_none V1_some V_nil V_move V_assign V_pick V_bin V_un V_extract V_makeFunc V_convert V_nilCheck V_fieldAddr V_field V_load V_store V_indexAddr V_index V_slice V_slice0 V_alloc V_box V_build V_buildSlice V_makeSlice V_len V_min V_max V_append V_copy V_call V_guard VGs_some VG_tt VG_ff VG_tf VG_ft VG_u gslot ok fail po so aNew dstOk freshU addLog_none' addLog_some' St.step putL evalA eget hget argE freshE freshO freshH AV.ids AV.idsL AV.ok1 AV.cells ids_box ids_arr liveBox liveArr isArr isObj isBoxB aPick isNilC aNilEq aBin aUn aExtract aMakeFunc aConvert aNilCheck aFieldAddr aField cut aLen aIndexAddr aMin aMax aIndex bnd isInt aSlice aSlice0 aLoad aAlloc aBox aStore splice aMake aMakeBox aCopy cellsOf cellsOfP updIds newIds zv_i64 zv_u8 zv_bool zv_nils zv_nilp cond_bool cond_int TI.isAgg TK.isSl TK.el okL avDps avDp avD List.map_cons List.map_nil List.append_nil List.nil_append List.cons_append List.length_cons List.length_nil List.take_succ_cons List.take_zero List.drop_succ_cons List.drop_zero List.take_nil List.drop_nil List.headD_cons List.getD_cons_zero List.getD_cons_succ List.mem_cons List.not_mem_nil List.getElem?_cons_zero List.getElem?_cons_succ List.toList_toArray Option.getD_some Option.getD_none Option.bind_some Option.bind_none Option.map_some Option.map_none Option.getD Option.toList Nat.zero_add Nat.add_zero Nat.zero_le Nat.le_refl if_true if_false ite_self true_and and_true false_and and_false true_or or_true false_or or_false not_true_eq_false not_false_eq_true ne_eq cond_true cond_false Bool.true_eq_false Bool.false_eq_true forall_const decide_true decide_false implies_true true_implies and_self or_self Nat.succ_ne_zero Int.toNat_natCast Int.natCast_nonneg List.length_map decide_eq_true_eq AV.views AV.view AV.viewPs AV.viewP arrsOnly newNames List.length_append List.append_assoc Bool.not_true Bool.not_false AV.ok2 aBuild fillR fillP aBuildSlice dense elP aAppend esOf esOfP List.forall_mem_cons forall_eq_or_imp forall_eq zD zDp map_take' map_drop' iD uD bD tD lD iD_len uD_len bD_len tD_len lD_len LB Int.cast_ofNat_Int Int.natCast_zero Int.natCast_one head_len all_len List.head?_cons List.head?_nil Bool.not_not eq_self List.take_length zv_str aConv byteOf isByte map_bcell bytes_all str_map cellsEq cellsP AV.kd Bool.and_true Bool.true_and Bool.and_false Bool.false_and spl_map spl_len mkbox_i mkbox_b flat_iD dataL_iA dataL_bA zv_u64 flat_iD' flat_len dataL_tA dataL_ttA spl_mt spl_mtt mkbox_s splice_one take_cons_drop cons_rep cons_tail hd_set hd_set0 List.length_replicate iA bA sA_def List.set_set List.length_set idsL_iA idsL_bA idsL_sA idsL_setE idsL_rep List.append_eq Nat.mul_one ti2 ti3 ti4 ti5 ti6 ti7 ti8 ti9 ti10 ti11 ti12 ti13 ti14 ti15 ti16 ti17 ti18 ti19 ti21 ti22 ti23 ti25 ti26 ti27 ti32 ti33 ti34 ti41 ti42 ti50 ti51 ti56 ti60 ti61 ti63 ti64 ti74 ti76 ti89 ti92 ti96 ti97 ti98 ti99 ti100 ti101 ti102 ti104 ti105 ti106 ti107 ti108 Row.D Node.D Row.D_len Node.D_len
noncomputable def ref09_leaf (v1 : List Int) (v2 : List Row) (v3 : Int) (v4 : Int) (v5 : Int) (v6 : Int) (v7 : Int) (v8 : Int) (v9 : Int) : Option (Bool) :=
  bif decide (v3 = 2) then (bif decide (v7 ≥ 0) then (some (decide (v7 < (v2.length : Int)) : Bool)) else (some (false : Bool))) else ((ref09_row v1 v2 v3 v4 v5 v6 v7 v8 v9).bind fun v12 => bif decide (v3 = 3) then (some (v12.1 : Bool)) else (some (false : Bool)))
theorem ref09_leaf_ok (v1 : List Int) (v2 : List Row) (v3 : Int) (v4 : Int) (v5 : Int) (v6 : Int) (v7 : Int) (v8 : Int) (v9 : Int) (r : Bool) (hx : ref09_leaf v1 v2 v3 v4 v5 v6 v7 v8 v9 = some r) :
    ACalls Try.prog 51 [.agg [.d (.sl (List.map iD v1)), .d (.sl (List.map Row.D v2))], .agg [.d (.int .i64 v3), .d (.int .i64 v4), .d (.int .i64 v5), .d (.int .i64 v6), .d (.int .i64 v7), .d (.int .i64 v8), .d (.int .i64 v9)]] [] (.d (.bool r)) [] := by
  refine ACalls.of_sem (n := 33) 0 [4] (fn := Try.f51) Try.func51 rfl rfl (.one rfl) rfl (by simp) (by intro i; simp only [hget]; (repeat' split) <;> simp <;> omega) ?_
  unfold ref09_leaf at hx
  refine Walk.seq (Walk.region' rfl fun K hK => ?_)
  simp only [go_sem, seval]
  refine hK _ ?_
  clear hK K
  refine Walk.seq (Walk.seq (Walk.region' rfl fun K hK => ?_))
  simp only [go_sem, seval]
  refine hK _ ?_
  clear hK K
  refine Walk.condO rfl hx (fun c13 hx => ?_) (fun c13 hx => ?_)
  · refine Walk.seq (Walk.region' rfl fun K hK => ?_)
    simp only [go_sem, seval, c13]
    refine VGdO hx (fun g14 hx => ?_) (fun g14 hx => ?_)
    · simp only [go_sem, seval, c13, g14]
      refine hK _ ?_
      clear hK K
      obtain rfl := Option.some.inj hx
      exact Walk.ret ⟨by simp [c13, g14], by simp [c13, g14]⟩
    simp only [go_sem, seval, c13, g14]
    refine hK _ ?_
    clear hK K
    obtain rfl := Option.some.inj hx
    exact Walk.ret ⟨by simp [c13, g14], by simp [c13, g14]⟩
  refine Walk.skip (Walk.seq (Walk.region' rfl fun K hK => ?_))
  obtain ⟨v12, h15, hx⟩ := bind_elim hx
  simp only [go_sem, seval, c13]
  refine VCl.pure rfl (by simp only [go_sem, seval, c13]; try simp) (ref09_row_ok v1 v2 v3 v4 v5 v6 v7 v8 v9 _ h15) (by simp only [go_sem, seval, c13]; try simp) (by simp only [go_sem, seval, c13]; try simp) (by simp only [go_sem, seval, c13]; try simp) (by simp only [go_sem, seval, c13]; try simp) (by simp only [go_sem, seval, c13]; try simp) (by simp only [go_sem, seval, c13]; try simp) ?_
  simp only [go_sem, seval, c13]
  refine hK _ ?_
  clear hK K
  refine Walk.seq (Walk.region' rfl fun K hK => ?_)
  simp only [go_sem, seval, c13]
  refine VGdO hx (fun g16 hx => ?_) (fun g16 hx => ?_)
  · simp only [go_sem, seval, c13, g16]
    refine hK _ ?_
    clear hK K
    obtain rfl := Option.some.inj hx
    exact Walk.ret ⟨by simp [c13, g16], by simp [c13, g16]⟩
  simp only [go_sem, seval, c13, g16]
  refine hK _ ?_
  clear hK K
  obtain rfl := Option.some.inj hx
  exact Walk.ret ⟨by simp [c13, g16], by simp [c13, g16]⟩
noncomputable def ref09_child (v1 : List Int) (v2 : Int) (v3 : Int) : Option (List Int) :=
  chk ((v1.length) * 8 ≤ 140737488355328) ((rd v1 v2).bind fun v6 => some ((v1.set (v2).toNat v3) : List Int))
theorem ref09_child_ok (v1 : List Int) (v2 : Int) (v3 : Int) (r : List Int) (hx : ref09_child v1 v2 v3 = some r) :
    ACalls Try.prog 52 [.d (.sl (List.map iD v1)), .d (.int .i64 v2), .d (.int .i64 v3)] [] (.arr 2000 0 r.length) [(2000, some (.arr 3 1 (List.map iD r)))] := by
  refine ACalls.of_sem (n := 16) 0 [6] (fn := Try.f52) Try.func52 rfl rfl (.one rfl) rfl (by simp) (by intro i; simp only [hget]; (repeat' split) <;> simp <;> omega) ?_
  unfold ref09_child at hx
  refine Walk.seq (Walk.region' rfl fun K hK => ?_)
  simp only [go_sem, seval]
  refine hK _ ?_
  clear hK K
  refine Walk.seq (Walk.region' rfl fun K hK => ?_)
  simp only [go_sem, seval]
  refine hK _ ?_
  clear hK K
  refine Walk.seq (Walk.region' rfl fun K hK => ?_)
  obtain ⟨k6, hx⟩ := chk_elim hx
  simp only [go_sem, seval, k6]
  repeat refine And.intro (by first | omega | (simp; done) | (simp; omega)) ?_
  refine hK _ ?_
  clear hK K
  refine Walk.weaken ⟨[(1, .d (.int .i64 v2)), (2, .d (.int .i64 v3)), (7, .arr 10 0 v1.length)], [(10, some (.arr 3 1 (List.map iD v1)))]⟩ (by simp [k6] <;> omega) (by simp [k6] <;> omega) ?_
  refine Walk.seq (Walk.region' rfl fun K hK => ?_)
  obtain ⟨v6, r7, a8, b9, c10, hx⟩ := rd_elim hx
  simp only [go_sem, seval, k6, a8, b9, c10]
  repeat refine And.intro (by first | omega | (simp; done) | (simp; omega)) ?_
  refine hK _ ?_
  clear hK K
  refine Walk.weaken ⟨[(7, .arr 10 0 (((v1.set (v2).toNat v3)).length))], [(10, some (.arr 3 1 (List.map iD ((v1.set (v2).toNat v3)))))]⟩ (by simp [k6, a8, b9, c10] <;> omega) (by simp [k6, a8, b9, c10] <;> omega) ?_
  refine Walk.seq (Walk.region' rfl fun K hK => ?_)
  simp only [go_sem, seval, k6, a8, b9, c10]
  refine hK _ ?_
  clear hK K
  refine Walk.weaken ⟨[(6, .arr 10 0 (((v1.set (v2).toNat v3)).length))], [(10, some (.arr 3 1 (List.map iD ((v1.set (v2).toNat v3)))))]⟩ (by simp [k6, a8, b9, c10] <;> omega) (by simp [k6, a8, b9, c10] <;> omega) ?_
  refine Walk.rename 10 2000 (by omega) (by omega) (by simp) (by simp) ?_
  simp only [renE, renL, AV.ren, AV.rens, AObj.ren, swp, Option.map_some, reduceIte, Nat.reduceEqDiff]
  obtain rfl := Option.some.inj hx
  exact Walk.ret ⟨by simp [k6, a8, b9, c10], by simp [k6, a8, b9, c10]⟩
noncomputable def ref09_States_l1 (v3 : List Node) (v1 : List Int) (v2 : List Row) (v117 : Int) (v118 : List Bool) (v119 : List (List Int)) : Option ((Int × List Bool × List (List Int)) ⊕ (List (List Int) × Int)) :=
  bif decide (v117 < (v3.length : Int)) then ((rd v3 v117).bind fun v142 => (rd v118 v117).bind fun v144 => bif !v144 then (exitO (some (([], 29) : List (List Int) × Int))) else (bif decide (¬ v142.Kind = 1) then ((ref09_leaf v1 v2 v142.Kind v142.Var v142.Zero v142.One v142.Row v142.Num v142.Den).bind fun v149 => bif !v149 then (exitO (some (([], 29) : List (List Int) × Int))) else (contO ((IntKind.i64.wrap (v117 + 1), v118, v119) : Int × List Bool × List (List Int)))) else (bif decide (v142.Var < 0) then (exitO (some (([], 29) : List (List Int) × Int))) else (bif decide (v142.Var ≥ (v1.length : Int)) then (exitO (some (([], 29) : List (List Int) × Int))) else ((rd v119 v117).bind fun v154 => (rd v154 v142.Var).bind fun v155 => bif decide (¬ v155 = (-1)) then (exitO (some (([], 29) : List (List Int) × Int))) else (bif decide (v142.Zero ≤ v117) then (exitO (some (([], 29) : List (List Int) × Int))) else (bif decide (v142.Zero ≥ (v3.length : Int)) then (exitO (some (([], 29) : List (List Int) × Int))) else (bif decide (v142.One ≤ v117) then (exitO (some (([], 29) : List (List Int) × Int))) else (bif decide (v142.One ≥ (v3.length : Int)) then (exitO (some (([], 29) : List (List Int) × Int))) else (bif decide (v142.Zero = v142.One) then (exitO (some (([], 29) : List (List Int) × Int))) else ((rd v118 v142.Zero).bind fun v156 => bif v156 then (exitO (some (([], 29) : List (List Int) × Int))) else ((rd v118 v142.One).bind fun v157 => bif v157 then (exitO (some (([], 29) : List (List Int) × Int))) else ((ref09_child v154 v142.Var 0).bind fun v158 => (rd v119 v142.Zero).bind fun v159 => (rd ((v119.set (v142.Zero).toNat v158)) v117).bind fun v160 => (ref09_child v160 v142.Var 1).bind fun v161 => (rd ((v119.set (v142.Zero).toNat v158)) v142.One).bind fun v162 => (rd ((v118.set (v142.Zero).toNat true)) v142.One).bind fun v163 => contO ((IntKind.i64.wrap (v117 + 1), (((v118.set (v142.Zero).toNat true)).set (v142.One).toNat true), (((v119.set (v142.Zero).toNat v158)).set (v142.One).toNat v161)) : Int × List Bool × List (List Int))))))))))))))) else (exitO (some ((v119, 0) : List (List Int) × Int)))
noncomputable def ref09_States_l0 (v1 : List Int) (v3 : List Node) (v2 : List Row) (v92 : Int) (v93 : List Int) : Option ((Int × List Int) ⊕ (List (List Int) × Int)) :=
  bif decide (v92 < (v1.length : Int)) then (chk ((v93.length + 1) * 8 ≤ 140737488355328) (contO ((IntKind.i64.wrap (v92 + 1), (v93 ++ [-1])) : Int × List Int))) else (exitO (chk ((0 : Int) ≤ (v3.length : Int) ∧ (v3.length : Int) = (v3.length : Int) ∧ 1 * (v3.length : Int) ≤ 281474976710656 ∧ (v3.length : Int) ≤ 281474976710656) ((rd (List.replicate v3.length false) 0).bind fun v94 => iter (fun g : Int × List Bool × List (List Int) => ref09_States_l1 v3 v1 v2 g.1 g.2.1 g.2.2) (0, ((List.replicate v3.length false).set 0 true), (((List.replicate v3.length ([] : List Int))).set 0 v93)))))
noncomputable def ref09_States (v1 : List Int) (v2 : List Row) (v3 : List Node) : Option (List (List Int) × Int) :=
  (ref08_Valid v1 v2).bind fun v86 => bif !v86 then (some (([], 1) : List (List Int) × Int)) else (bif decide ((v3.length : Int) > 8191) then (some (([], 3) : List (List Int) × Int)) else (bif decide ((v3.length : Int) = 0) then (some (([], 29) : List (List Int) × Int)) else (chk ((0 : Int) ≤ (v3.length : Int) ∧ (v3.length : Int) = (v3.length : Int) ∧ 24 * (v3.length : Int) ≤ 281474976710656 ∧ (v3.length : Int) ≤ 281474976710656) ((rd ((List.replicate v3.length ([] : List Int))) 0).bind fun v87 => iter (fun g : Int × List Int => ref09_States_l0 v1 v3 v2 g.1 g.2) (0, [])))))
theorem ref09_States_ok (v1 : List Int) (v2 : List Row) (v3 : List Node) (r : List (List Int) × Int) (hx : ref09_States v1 v2 v3 = some r) :
    ACalls Try.prog 23 [.agg [.d (.sl (List.map iD v1)), .d (.sl (List.map Row.D v2))], .d (.sl (List.map Node.D v3))] [] (.tup [.d (.sl (List.map (lD iD) r.1)), .d (.int .i64 r.2)]) [] := by
  refine ACalls.of_sem (n := 167) 100000 [4, 5] (fn := Try.f23) Try.func23 rfl rfl (.two rfl) rfl (by simp) (by intro i; simp only [hget]; (repeat' split) <;> simp <;> omega) ?_
  unfold ref09_States at hx
  refine Walk.seq (Walk.region' rfl fun K hK => ?_)
  simp only [go_sem, seval]
  refine hK _ ?_
  clear hK K
  refine Walk.seq (Walk.seq (Walk.region' rfl fun K hK => ?_))
  obtain ⟨v86, h541, hx⟩ := bind_elim hx
  simp only [go_sem, seval]
  refine VCl.pure rfl (by simp only [go_sem, seval]; try simp) (ref08_Valid_ok v1 v2 _ h541) (by simp only [go_sem, seval]; try simp) (by simp only [go_sem, seval]; try simp) (by simp only [go_sem, seval]; try simp) (by simp only [go_sem, seval]; try simp) (by simp only [go_sem, seval]; try simp) (by simp only [go_sem, seval]; try simp) ?_
  simp only [go_sem, seval]
  refine hK _ ?_
  clear hK K
  refine Walk.condO rfl hx (fun c543 hx => ?_) (fun c543 hx => ?_)
  · refine Walk.seq (Walk.region' rfl fun K hK => ?_)
    simp only [go_sem, seval, c543]
    refine hK _ ?_
    clear hK K
    refine Walk.weaken ⟨[(4, .nils), (5, .d (.int .i64 1))], []⟩ (by simp [c543] <;> omega) (by simp [c543] <;> omega) ?_
    refine Walk.nil2d [(4, .d (.sl (List.map (lD iD) []))), (5, .d (.int .i64 1))] [] (by simp) (by simp) ?_
    obtain rfl := Option.some.inj hx
    exact Walk.ret ⟨by simp [c543], by simp [c543]⟩
  refine Walk.skip (Walk.seq (Walk.seq (Walk.region' rfl fun K hK => ?_)))
  simp only [go_sem, seval, c543]
  refine hK _ ?_
  clear hK K
  refine Walk.condO rfl hx (fun c546 hx => ?_) (fun c546 hx => ?_)
  · refine Walk.seq (Walk.region' rfl fun K hK => ?_)
    simp only [go_sem, seval, c543, c546]
    refine hK _ ?_
    clear hK K
    refine Walk.weaken ⟨[(4, .nils), (5, .d (.int .i64 3))], []⟩ (by simp [c543, c546] <;> omega) (by simp [c543, c546] <;> omega) ?_
    refine Walk.nil2d [(4, .d (.sl (List.map (lD iD) []))), (5, .d (.int .i64 3))] [] (by simp) (by simp) ?_
    obtain rfl := Option.some.inj hx
    exact Walk.ret ⟨by simp [c543, c546], by simp [c543, c546]⟩
  refine Walk.skip (Walk.seq (Walk.seq (Walk.region' rfl fun K hK => ?_)))
  simp only [go_sem, seval, c543, c546]
  refine hK _ ?_
  clear hK K
  refine Walk.condO rfl hx (fun c549 hx => ?_) (fun c549 hx => ?_)
  · refine Walk.seq (Walk.region' rfl fun K hK => ?_)
    simp only [go_sem, seval, c543, c546, c549]
    refine hK _ ?_
    clear hK K
    refine Walk.weaken ⟨[(4, .nils), (5, .d (.int .i64 29))], []⟩ (by simp [c543, c546, c549] <;> omega) (by simp [c543, c546, c549] <;> omega) ?_
    refine Walk.nil2d [(4, .d (.sl (List.map (lD iD) []))), (5, .d (.int .i64 29))] [] (by simp) (by simp) ?_
    obtain rfl := Option.some.inj hx
    exact Walk.ret ⟨by simp [c543, c546, c549], by simp [c543, c546, c549]⟩
  refine Walk.skip (Walk.seq (Walk.region' rfl fun K hK => ?_))
  obtain ⟨k550, hx⟩ := chk_elim hx
  simp only [go_sem, seval, c543, c546, c549, k550]
  repeat refine And.intro (by first | omega | (simp; done) | (simp; omega)) ?_
  refine hK _ ?_
  clear hK K
  refine Walk.weaken ⟨[(1, .d (.sl (List.map Node.D v3))), (2, .box 100002 0), (6, .arr 100022 0 (((List.replicate v3.length ([] : List Int))).length))], [(100002, some (.box [.d (.sl (List.map iD v1)), .d (.sl (List.map Row.D v2))])), (100022, some (.box (List.map (sA iD) ((List.replicate v3.length ([] : List Int))))))]⟩ (by simp [c543, c546, c549, k550] <;> omega) (by simp [c543, c546, c549, k550] <;> omega) ?_
  refine Walk.seq (Walk.region' rfl fun K hK => ?_)
  obtain ⟨v87, r551, a552, b553, c554, q555, d556, e557, hx⟩ := rdA_elim hx
  have q558 := q555
  try simp only [List.length_replicate, List.length_set] at q558
  have q559 := b553
  try simp only [List.length_replicate, List.length_set] at q559
  have q560 := q555
  try simp only [List.length_replicate, List.length_set, Int.reduceToNat] at q560
  simp only [go_sem, seval, c543, c546, c549, k550, a552, b553, c554, q555, d556, e557, q558, q559, q560]
  repeat refine And.intro (by first | omega | (simp; done) | (simp; omega)) ?_
  refine hK _ ?_
  clear hK K
  refine Walk.weaken ⟨[(1, .d (.sl (List.map Node.D v3))), (2, .box 100002 0), (6, .arr 100022 0 (((List.replicate v3.length ([] : List Int))).length))], [(100002, some (.box [.d (.sl (List.map iD v1)), .d (.sl (List.map Row.D v2))])), (100022, some (.box ((List.map (sA iD) ((List.replicate v3.length ([] : List Int)))).set 0 (.arr 100024 0 0)))), (100024, some (.arr 3 1 (List.map iD [])))]⟩ (by simp [c543, c546, c549, k550, a552, b553, c554, q555, d556, e557, q558, q559, q560] <;> omega) (by simp [c543, c546, c549, k550, a552, b553, c554, q555, d556, e557, q558, q559, q560] <;> omega) ?_
  refine Walk.seq (Walk.seq (Walk.region' rfl fun K hK => ?_))
  simp only [go_sem, seval, c543, c546, c549, k550, a552, b553, c554, q555, d556, e557, q558, q559, q560]
  refine hK _ ?_
  clear hK K
  refine Walk.block (Walk.loop ?_)
  refine Walk.weaken ⟨[(1, .d (.sl (List.map Node.D v3))), (2, .box 100002 0), (6, .arr 100022 0 (((List.replicate v3.length ([] : List Int))).length)), (7, .d (.int .i64 0))], [(100002, some (.box [.d (.sl (List.map iD v1)), .d (.sl (List.map Row.D v2))])), (100022, some (.box ((List.map (sA iD) ((List.replicate v3.length ([] : List Int)))).set 0 (.arr 100024 0 0)))), (100024, some (.arr 3 1 (List.map iD [])))]⟩ (by simp [c543, c546, c549, k550, a552, b553, c554, q555, d556, e557, q558, q559, q560] <;> omega) (by simp [c543, c546, c549, k550, a552, b553, c554, q555, d556, e557, q558, q559, q560] <;> omega) ?_
  refine Walk.iter (σ := Int × List Int) (fun g => ⟨[(1, .d (.sl (List.map Node.D v3))), (2, .box 100002 0), (6, .arr 100022 0 (((List.replicate v3.length ([] : List Int))).length)), (7, .d (.int .i64 g.1))], [(100002, some (.box [.d (.sl (List.map iD v1)), .d (.sl (List.map Row.D v2))])), (100022, some (.box ((List.map (sA iD) ((List.replicate v3.length ([] : List Int)))).set 0 (.arr 100024 0 g.2.length)))), (100024, some (.arr 3 1 (List.map iD g.2)))]⟩) (fun g : Int × List Int => ref09_States_l0 v1 v3 v2 g.1 g.2) _ (fun g y1102 hx ih598 hr599 => ?_) (0, []) hx
  obtain ⟨v92, v93⟩ := g
  unfold ref09_States_l0 at hx
  try dsimp only at hx ⊢
  refine Walk.seq (Walk.seq (Walk.region' rfl fun K hK => ?_))
  simp only [go_sem, seval, c543, c546, c549, k550, a552, b553, c554, q555, d556, e557, q558, q559, q560]
  refine hK _ ?_
  clear hK K
  refine Walk.condO rfl hx (fun c602 hx => ?_) (fun c602 hx => ?_)
  · refine Walk.skip (Walk.seq (Walk.block (Walk.region' rfl fun K hK => ?_)))
    obtain ⟨k603, hx⟩ := chk_elim hx
    simp only [go_sem, seval, c543, c546, c549, k550, a552, b553, c554, q555, d556, e557, q558, q559, q560, c602, k603]
    repeat refine And.intro (by first | omega | (simp; done) | (simp; omega)) ?_
    refine hK _ ?_
    clear hK K
    refine Walk.weaken ⟨[(1, .d (.sl (List.map Node.D v3))), (2, .box 100002 0), (6, .arr 100022 0 (((List.replicate v3.length ([] : List Int))).length)), (7, .d (.int .i64 v92))], [(100002, some (.box [.d (.sl (List.map iD v1)), .d (.sl (List.map Row.D v2))])), (100022, some (.box ((List.map (sA iD) ((List.replicate v3.length ([] : List Int)))).set 0 (.arr 100024 0 ((v93 ++ [-1]).length))))), (100024, some (.arr 3 1 (List.map iD (v93 ++ [-1]))))]⟩ (by simp [c543, c546, c549, k550, a552, b553, c554, q555, d556, e557, q558, q559, q560, c602, k603] <;> omega) (by simp [c543, c546, c549, k550, a552, b553, c554, q555, d556, e557, q558, q559, q560, c602, k603] <;> omega) ?_
    refine Walk.inBlock (Walk.region' rfl fun K hK => ?_)
    simp only [go_sem, seval, c543, c546, c549, k550, a552, b553, c554, q555, d556, e557, q558, q559, q560, c602, k603]
    refine hK _ ?_
    clear hK K
    exact Walk.weaken _ (by simp [c543, c546, c549, k550, a552, b553, c554, q555, d556, e557, q558, q559, q560, c602, k603] <;> omega) (by simp [c543, c546, c549, k550, a552, b553, c554, q555, d556, e557, q558, q559, q560, c602, k603] <;> omega) (ih598 _ (cont_elim hx))
  refine Walk.exit rfl ?_
  obtain ⟨z604, e605, hx⟩ := exit_elim hx
  rw [hr599 z604 e605] at hx
  refine Walk.seq (Walk.region' rfl fun K hK => ?_)
  obtain ⟨k606, hx⟩ := chk_elim hx
  simp only [go_sem, seval, c543, c546, c549, k550, a552, b553, c554, q555, d556, e557, q558, q559, q560, c602, k606]
  repeat refine And.intro (by first | omega | (simp; done) | (simp; omega)) ?_
  refine hK _ ?_
  clear hK K
  refine Walk.weaken ⟨[(1, .d (.sl (List.map Node.D v3))), (2, .box 100002 0), (6, .arr 100022 0 (((List.replicate v3.length ([] : List Int))).length)), (8, .arr 100042 0 ((List.replicate v3.length false).length))], [(100002, some (.box [.d (.sl (List.map iD v1)), .d (.sl (List.map Row.D v2))])), (100022, some (.box ((List.map (sA iD) ((List.replicate v3.length ([] : List Int)))).set 0 (.arr 100024 0 v93.length)))), (100024, some (.arr 3 1 (List.map iD v93))), (100042, some (.box (List.map bA (List.replicate v3.length false))))]⟩ (by simp [c543, c546, c549, k550, a552, b553, c554, q555, d556, e557, q558, q559, q560, c602, k606] <;> omega) (by simp [c543, c546, c549, k550, a552, b553, c554, q555, d556, e557, q558, q559, q560, c602, k606] <;> omega) ?_
  refine Walk.seq (Walk.region' rfl fun K hK => ?_)
  obtain ⟨v94, r607, a608, b609, c610, q611, d612, e613, hx⟩ := rdA_elim hx
  have q614 := q611
  try simp only [List.length_replicate, List.length_set] at q614
  have q615 := b609
  try simp only [List.length_replicate, List.length_set] at q615
  have q616 := q611
  try simp only [List.length_replicate, List.length_set, Int.reduceToNat] at q616
  simp only [go_sem, seval, c543, c546, c549, k550, a552, b553, c554, q555, d556, e557, q558, q559, q560, c602, k606, a608, b609, c610, q611, d612, e613, q614, q615, q616]
  repeat refine And.intro (by first | omega | (simp; done) | (simp; omega)) ?_
  refine hK _ ?_
  clear hK K
  refine Walk.weaken ⟨[(1, .d (.sl (List.map Node.D v3))), (2, .box 100002 0), (6, .arr 100022 0 (((List.replicate v3.length ([] : List Int))).length)), (8, .arr 100042 0 ((((List.replicate v3.length false).set 0 true)).length))], [(100002, some (.box [.d (.sl (List.map iD v1)), .d (.sl (List.map Row.D v2))])), (100022, some (.box ((List.map (sA iD) ((List.replicate v3.length ([] : List Int)))).set 0 (.arr 100024 0 v93.length)))), (100024, some (.arr 3 1 (List.map iD v93))), (100042, some (.box (List.map bA (((List.replicate v3.length false).set 0 true)))))]⟩ (by simp [c543, c546, c549, k550, a552, b553, c554, q555, d556, e557, q558, q559, q560, c602, k606, a608, b609, c610, q611, d612, e613, q614, q615, q616] <;> omega) (by simp [c543, c546, c549, k550, a552, b553, c554, q555, d556, e557, q558, q559, q560, c602, k606, a608, b609, c610, q611, d612, e613, q614, q615, q616] <;> omega) ?_
  refine Walk.seq (Walk.seq (Walk.region' rfl fun K hK => ?_))
  simp only [go_sem, seval, c543, c546, c549, k550, a552, b553, c554, q555, d556, e557, q558, q559, q560, c602, k606, a608, b609, c610, q611, d612, e613, q614, q615, q616]
  refine hK _ ?_
  clear hK K
  refine Walk.block (Walk.loop ?_)
  refine Walk.weaken ⟨[(1, .d (.sl (List.map Node.D v3))), (2, .box 100002 0), (6, .arr 100022 0 (((List.replicate v3.length ([] : List Int))).length)), (8, .arr 100042 0 ((((List.replicate v3.length false).set 0 true)).length)), (9, .d (.int .i64 0))], [(100002, some (.box [.d (.sl (List.map iD v1)), .d (.sl (List.map Row.D v2))])), (100022, some (.box ((List.map (sA iD) ((List.replicate v3.length ([] : List Int)))).set 0 (.arr 100024 0 v93.length)))), (100024, some (.arr 3 1 (List.map iD v93))), (100042, some (.box (List.map bA (((List.replicate v3.length false).set 0 true)))))]⟩ (by simp [c543, c546, c549, k550, a552, b553, c554, q555, d556, e557, q558, q559, q560, c602, k606, a608, b609, c610, q611, d612, e613, q614, q615, q616] <;> omega) (by simp [c543, c546, c549, k550, a552, b553, c554, q555, d556, e557, q558, q559, q560, c602, k606, a608, b609, c610, q611, d612, e613, q614, q615, q616] <;> omega) ?_
  refine Walk.freeze 100024 3 1 (List.map iD v93) [(1, .d (.sl (List.map Node.D v3))), (2, .box 100002 0), (6, .arr 100022 0 (((((List.replicate v3.length ([] : List Int))).set 0 v93)).length)), (8, .arr 100042 0 ((((List.replicate v3.length false).set 0 true)).length)), (9, .d (.int .i64 0))] [(100002, some (.box [.d (.sl (List.map iD v1)), .d (.sl (List.map Row.D v2))])), (100022, some (.box (List.map (sA iD) ((((List.replicate v3.length ([] : List Int))).set 0 v93))))), (100042, some (.box (List.map bA (((List.replicate v3.length false).set 0 true)))))] (by simp) (by simp) (by simp) ?_
  refine Walk.weaken ⟨[(1, .d (.sl (List.map Node.D v3))), (2, .box 100002 0), (6, .arr 100022 0 (((((List.replicate v3.length ([] : List Int))).set 0 v93)).length)), (8, .arr 100042 0 ((((List.replicate v3.length false).set 0 true)).length)), (9, .d (.int .i64 0))], [(100002, some (.box [.d (.sl (List.map iD v1)), .d (.sl (List.map Row.D v2))])), (100022, some (.box (List.map (sA iD) ((((List.replicate v3.length ([] : List Int))).set 0 v93))))), (100042, some (.box (List.map bA (((List.replicate v3.length false).set 0 true)))))]⟩ (by simp [c543, c546, c549, k550, a552, b553, c554, q555, d556, e557, q558, q559, q560, c602, k606, a608, b609, c610, q611, d612, e613, q614, q615, q616] <;> omega) (by simp [c543, c546, c549, k550, a552, b553, c554, q555, d556, e557, q558, q559, q560, c602, k606, a608, b609, c610, q611, d612, e613, q614, q615, q616] <;> omega) ?_
  refine Walk.iter (σ := Int × List Bool × List (List Int)) (fun g => ⟨[(1, .d (.sl (List.map Node.D v3))), (2, .box 100002 0), (6, .arr 100022 0 g.2.2.length), (8, .arr 100042 0 g.2.1.length), (9, .d (.int .i64 g.1))], [(100002, some (.box [.d (.sl (List.map iD v1)), .d (.sl (List.map Row.D v2))])), (100022, some (.box (List.map (sA iD) g.2.2))), (100042, some (.box (List.map bA g.2.1)))]⟩) (fun g : Int × List Bool × List (List Int) => ref09_States_l1 v3 v1 v2 g.1 g.2.1 g.2.2) _ (fun g y1101 hx ih926 hr927 => ?_) (0, ((List.replicate v3.length false).set 0 true), (((List.replicate v3.length ([] : List Int))).set 0 v93)) hx
  obtain ⟨v117, v118, v119⟩ := g
  unfold ref09_States_l1 at hx
  try dsimp only at hx ⊢
  refine Walk.seq (Walk.seq (Walk.region' rfl fun K hK => ?_))
  simp only [go_sem, seval, c543, c546, c549, k550, a552, b553, c554, q555, d556, e557, q558, q559, q560, c602, k606, a608, b609, c610, q611, d612, e613, q614, q615, q616]
  refine hK _ ?_
  clear hK K
  refine Walk.condO rfl hx (fun c930 hx => ?_) (fun c930 hx => ?_)
  · refine Walk.skip (Walk.seq (Walk.block (Walk.seq (Walk.region' rfl fun K hK => ?_))))
    obtain ⟨v142, r931, a932, b933, c934, hx⟩ := rd_elim hx
    simp only [go_sem, seval, c543, c546, c549, k550, a552, b553, c554, q555, d556, e557, q558, q559, q560, c602, k606, a608, b609, c610, q611, d612, e613, q614, q615, q616, c930, a932, b933, c934]
    repeat refine And.intro (by first | omega | (simp; done) | (simp; omega)) ?_
    refine hK _ ?_
    clear hK K
    refine Walk.seq (Walk.seq (Walk.region' rfl fun K hK => ?_))
    obtain ⟨v144, r943, a944, b945, c946, q947, d948, e949, hx⟩ := rdA_elim hx
    simp only [go_sem, seval, c543, c546, c549, k550, a552, b553, c554, q555, d556, e557, q558, q559, q560, c602, k606, a608, b609, c610, q611, d612, e613, q614, q615, q616, c930, a932, b933, c934, a944, b945, c946, q947, d948, e949]
    repeat refine And.intro (by first | omega | (simp; done) | (simp; omega)) ?_
    refine hK _ ?_
    clear hK K
    refine Walk.condO rfl hx (fun c951 hx => ?_) (fun c951 hx => ?_)
    · refine Walk.seq (Walk.region' rfl fun K hK => ?_)
      simp only [go_sem, seval, c543, c546, c549, k550, a552, b553, c554, q555, d556, e557, q558, q559, q560, c602, k606, a608, b609, c610, q611, d612, e613, q614, q615, q616, c930, a932, b933, c934, a944, b945, c946, q947, d948, e949, c951]
      refine hK _ ?_
      clear hK K
      obtain ⟨z952, e953, hx⟩ := exit_elim hx
      rw [hr927 z952 e953] at hx
      refine Walk.weaken ⟨[(4, .nils), (5, .d (.int .i64 29))], []⟩ (by simp [c543, c546, c549, k550, a552, b553, c554, q555, d556, e557, q558, q559, q560, c602, k606, a608, b609, c610, q611, d612, e613, q614, q615, q616, c930, a932, b933, c934, a944, b945, c946, q947, d948, e949, c951] <;> omega) (by simp [c543, c546, c549, k550, a552, b553, c554, q555, d556, e557, q558, q559, q560, c602, k606, a608, b609, c610, q611, d612, e613, q614, q615, q616, c930, a932, b933, c934, a944, b945, c946, q947, d948, e949, c951] <;> omega) ?_
      refine Walk.nil2d [(4, .d (.sl (List.map (lD iD) []))), (5, .d (.int .i64 29))] [] (by simp) (by simp) ?_
      obtain rfl := Option.some.inj hx
      exact Walk.ret ⟨by simp [c543, c546, c549, k550, a552, b553, c554, q555, d556, e557, q558, q559, q560, c602, k606, a608, b609, c610, q611, d612, e613, q614, q615, q616, c930, a932, b933, c934, a944, b945, c946, q947, d948, e949, c951], by simp [c543, c546, c549, k550, a552, b553, c554, q555, d556, e557, q558, q559, q560, c602, k606, a608, b609, c610, q611, d612, e613, q614, q615, q616, c930, a932, b933, c934, a944, b945, c946, q947, d948, e949, c951]⟩
    refine Walk.skip (Walk.seq (Walk.seq (Walk.region' rfl fun K hK => ?_)))
    simp only [go_sem, seval, c543, c546, c549, k550, a552, b553, c554, q555, d556, e557, q558, q559, q560, c602, k606, a608, b609, c610, q611, d612, e613, q614, q615, q616, c930, a932, b933, c934, a944, b945, c946, q947, d948, e949, c951]
    refine hK _ ?_
    clear hK K
    refine Walk.condO rfl hx (fun c960 hx => ?_) (fun c960 hx => ?_)
    · refine Walk.seq (Walk.seq (Walk.region' rfl fun K hK => ?_))
      obtain ⟨v149, h965, hx⟩ := bind_elim hx
      simp only [go_sem, seval, c543, c546, c549, k550, a552, b553, c554, q555, d556, e557, q558, q559, q560, c602, k606, a608, b609, c610, q611, d612, e613, q614, q615, q616, c930, a932, b933, c934, a944, b945, c946, q947, d948, e949, c951, c960]
      refine VCl.pure rfl (by simp only [go_sem, seval, c543, c546, c549, k550, a552, b553, c554, q555, d556, e557, q558, q559, q560, c602, k606, a608, b609, c610, q611, d612, e613, q614, q615, q616, c930, a932, b933, c934, a944, b945, c946, q947, d948, e949, c951, c960]; try simp) (ref09_leaf_ok v1 v2 v142.Kind v142.Var v142.Zero v142.One v142.Row v142.Num v142.Den _ h965) (by simp only [go_sem, seval, c543, c546, c549, k550, a552, b553, c554, q555, d556, e557, q558, q559, q560, c602, k606, a608, b609, c610, q611, d612, e613, q614, q615, q616, c930, a932, b933, c934, a944, b945, c946, q947, d948, e949, c951, c960]; try simp) (by simp only [go_sem, seval, c543, c546, c549, k550, a552, b553, c554, q555, d556, e557, q558, q559, q560, c602, k606, a608, b609, c610, q611, d612, e613, q614, q615, q616, c930, a932, b933, c934, a944, b945, c946, q947, d948, e949, c951, c960]; try simp) (by simp only [go_sem, seval, c543, c546, c549, k550, a552, b553, c554, q555, d556, e557, q558, q559, q560, c602, k606, a608, b609, c610, q611, d612, e613, q614, q615, q616, c930, a932, b933, c934, a944, b945, c946, q947, d948, e949, c951, c960]; try simp) (by simp only [go_sem, seval, c543, c546, c549, k550, a552, b553, c554, q555, d556, e557, q558, q559, q560, c602, k606, a608, b609, c610, q611, d612, e613, q614, q615, q616, c930, a932, b933, c934, a944, b945, c946, q947, d948, e949, c951, c960]; try simp) (by simp only [go_sem, seval, c543, c546, c549, k550, a552, b553, c554, q555, d556, e557, q558, q559, q560, c602, k606, a608, b609, c610, q611, d612, e613, q614, q615, q616, c930, a932, b933, c934, a944, b945, c946, q947, d948, e949, c951, c960]; try simp) (by simp only [go_sem, seval, c543, c546, c549, k550, a552, b553, c554, q555, d556, e557, q558, q559, q560, c602, k606, a608, b609, c610, q611, d612, e613, q614, q615, q616, c930, a932, b933, c934, a944, b945, c946, q947, d948, e949, c951, c960]; try simp) ?_
      simp only [go_sem, seval, c543, c546, c549, k550, a552, b553, c554, q555, d556, e557, q558, q559, q560, c602, k606, a608, b609, c610, q611, d612, e613, q614, q615, q616, c930, a932, b933, c934, a944, b945, c946, q947, d948, e949, c951, c960]
      refine hK _ ?_
      clear hK K
      refine Walk.condO rfl hx (fun c967 hx => ?_) (fun c967 hx => ?_)
      · refine Walk.seq (Walk.region' rfl fun K hK => ?_)
        simp only [go_sem, seval, c543, c546, c549, k550, a552, b553, c554, q555, d556, e557, q558, q559, q560, c602, k606, a608, b609, c610, q611, d612, e613, q614, q615, q616, c930, a932, b933, c934, a944, b945, c946, q947, d948, e949, c951, c960, c967]
        refine hK _ ?_
        clear hK K
        obtain ⟨z968, e969, hx⟩ := exit_elim hx
        rw [hr927 z968 e969] at hx
        refine Walk.weaken ⟨[(4, .nils), (5, .d (.int .i64 29))], []⟩ (by simp [c543, c546, c549, k550, a552, b553, c554, q555, d556, e557, q558, q559, q560, c602, k606, a608, b609, c610, q611, d612, e613, q614, q615, q616, c930, a932, b933, c934, a944, b945, c946, q947, d948, e949, c951, c960, c967] <;> omega) (by simp [c543, c546, c549, k550, a552, b553, c554, q555, d556, e557, q558, q559, q560, c602, k606, a608, b609, c610, q611, d612, e613, q614, q615, q616, c930, a932, b933, c934, a944, b945, c946, q947, d948, e949, c951, c960, c967] <;> omega) ?_
        refine Walk.nil2d [(4, .d (.sl (List.map (lD iD) []))), (5, .d (.int .i64 29))] [] (by simp) (by simp) ?_
        obtain rfl := Option.some.inj hx
        exact Walk.ret ⟨by simp [c543, c546, c549, k550, a552, b553, c554, q555, d556, e557, q558, q559, q560, c602, k606, a608, b609, c610, q611, d612, e613, q614, q615, q616, c930, a932, b933, c934, a944, b945, c946, q947, d948, e949, c951, c960, c967], by simp [c543, c546, c549, k550, a552, b553, c554, q555, d556, e557, q558, q559, q560, c602, k606, a608, b609, c610, q611, d612, e613, q614, q615, q616, c930, a932, b933, c934, a944, b945, c946, q947, d948, e949, c951, c960, c967]⟩
      refine Walk.skip (Walk.exit rfl (Walk.region' rfl fun K hK => ?_))
      simp only [go_sem, seval, c543, c546, c549, k550, a552, b553, c554, q555, d556, e557, q558, q559, q560, c602, k606, a608, b609, c610, q611, d612, e613, q614, q615, q616, c930, a932, b933, c934, a944, b945, c946, q947, d948, e949, c951, c960, c967]
      refine hK _ ?_
      clear hK K
      exact Walk.weaken _ (by simp [c543, c546, c549, k550, a552, b553, c554, q555, d556, e557, q558, q559, q560, c602, k606, a608, b609, c610, q611, d612, e613, q614, q615, q616, c930, a932, b933, c934, a944, b945, c946, q947, d948, e949, c951, c960, c967] <;> omega) (by simp [c543, c546, c549, k550, a552, b553, c554, q555, d556, e557, q558, q559, q560, c602, k606, a608, b609, c610, q611, d612, e613, q614, q615, q616, c930, a932, b933, c934, a944, b945, c946, q947, d948, e949, c951, c960, c967] <;> omega) (ih926 _ (cont_elim hx))
    refine Walk.skip (Walk.seq (Walk.seq (Walk.drawn' rfl mixed fun K hK => ?_)))
    simp only [go_sem, seval, c543, c546, c549, k550, a552, b553, c554, q555, d556, e557, q558, q559, q560, c602, k606, a608, b609, c610, q611, d612, e613, q614, q615, q616, c930, a932, b933, c934, a944, b945, c946, q947, d948, e949, c951, c960]
    refine VGdO hx (fun g1005 hx => ?_) (fun g1005 hx => ?_)
    · simp only [go_sem, seval, c543, c546, c549, k550, a552, b553, c554, q555, d556, e557, q558, q559, q560, c602, k606, a608, b609, c610, q611, d612, e613, q614, q615, q616, c930, a932, b933, c934, a944, b945, c946, q947, d948, e949, c951, c960, g1005]
      refine hK _ _ (by kernel_rfl) (by simp [c543, c546, c549, k550, a552, b553, c554, q555, d556, e557, q558, q559, q560, c602, k606, a608, b609, c610, q611, d612, e613, q614, q615, q616, c930, a932, b933, c934, a944, b945, c946, q947, d948, e949, c951, c960, g1005]) ?_
      clear hK K
      refine Walk.condT rfl (Walk.seq (Walk.region' rfl fun K hK => ?_))
      simp only [go_sem, seval, c543, c546, c549, k550, a552, b553, c554, q555, d556, e557, q558, q559, q560, c602, k606, a608, b609, c610, q611, d612, e613, q614, q615, q616, c930, a932, b933, c934, a944, b945, c946, q947, d948, e949, c951, c960, g1005]
      refine hK _ ?_
      clear hK K
      obtain ⟨z1006, e1007, hx⟩ := exit_elim hx
      rw [hr927 z1006 e1007] at hx
      refine Walk.weaken ⟨[(4, .nils), (5, .d (.int .i64 29))], []⟩ (by simp [c543, c546, c549, k550, a552, b553, c554, q555, d556, e557, q558, q559, q560, c602, k606, a608, b609, c610, q611, d612, e613, q614, q615, q616, c930, a932, b933, c934, a944, b945, c946, q947, d948, e949, c951, c960, g1005] <;> omega) (by simp [c543, c546, c549, k550, a552, b553, c554, q555, d556, e557, q558, q559, q560, c602, k606, a608, b609, c610, q611, d612, e613, q614, q615, q616, c930, a932, b933, c934, a944, b945, c946, q947, d948, e949, c951, c960, g1005] <;> omega) ?_
      refine Walk.nil2d [(4, .d (.sl (List.map (lD iD) []))), (5, .d (.int .i64 29))] [] (by simp) (by simp) ?_
      obtain rfl := Option.some.inj hx
      exact Walk.ret ⟨by simp [c543, c546, c549, k550, a552, b553, c554, q555, d556, e557, q558, q559, q560, c602, k606, a608, b609, c610, q611, d612, e613, q614, q615, q616, c930, a932, b933, c934, a944, b945, c946, q947, d948, e949, c951, c960, g1005], by simp [c543, c546, c549, k550, a552, b553, c554, q555, d556, e557, q558, q559, q560, c602, k606, a608, b609, c610, q611, d612, e613, q614, q615, q616, c930, a932, b933, c934, a944, b945, c946, q947, d948, e949, c951, c960, g1005]⟩
    simp only [go_sem, seval, c543, c546, c549, k550, a552, b553, c554, q555, d556, e557, q558, q559, q560, c602, k606, a608, b609, c610, q611, d612, e613, q614, q615, q616, c930, a932, b933, c934, a944, b945, c946, q947, d948, e949, c951, c960, g1005]
    refine VGdO hx (fun g1008 hx => ?_) (fun g1008 hx => ?_)
    · simp only [go_sem, seval, c543, c546, c549, k550, a552, b553, c554, q555, d556, e557, q558, q559, q560, c602, k606, a608, b609, c610, q611, d612, e613, q614, q615, q616, c930, a932, b933, c934, a944, b945, c946, q947, d948, e949, c951, c960, g1005, g1008]
      refine hK _ _ (by kernel_rfl) (by simp [c543, c546, c549, k550, a552, b553, c554, q555, d556, e557, q558, q559, q560, c602, k606, a608, b609, c610, q611, d612, e613, q614, q615, q616, c930, a932, b933, c934, a944, b945, c946, q947, d948, e949, c951, c960, g1005, g1008]) ?_
      clear hK K
      refine Walk.condT rfl (Walk.seq (Walk.region' rfl fun K hK => ?_))
      simp only [go_sem, seval, c543, c546, c549, k550, a552, b553, c554, q555, d556, e557, q558, q559, q560, c602, k606, a608, b609, c610, q611, d612, e613, q614, q615, q616, c930, a932, b933, c934, a944, b945, c946, q947, d948, e949, c951, c960, g1005, g1008]
      refine hK _ ?_
      clear hK K
      obtain ⟨z1009, e1010, hx⟩ := exit_elim hx
      rw [hr927 z1009 e1010] at hx
      refine Walk.weaken ⟨[(4, .nils), (5, .d (.int .i64 29))], []⟩ (by simp [c543, c546, c549, k550, a552, b553, c554, q555, d556, e557, q558, q559, q560, c602, k606, a608, b609, c610, q611, d612, e613, q614, q615, q616, c930, a932, b933, c934, a944, b945, c946, q947, d948, e949, c951, c960, g1005, g1008] <;> omega) (by simp [c543, c546, c549, k550, a552, b553, c554, q555, d556, e557, q558, q559, q560, c602, k606, a608, b609, c610, q611, d612, e613, q614, q615, q616, c930, a932, b933, c934, a944, b945, c946, q947, d948, e949, c951, c960, g1005, g1008] <;> omega) ?_
      refine Walk.nil2d [(4, .d (.sl (List.map (lD iD) []))), (5, .d (.int .i64 29))] [] (by simp) (by simp) ?_
      obtain rfl := Option.some.inj hx
      exact Walk.ret ⟨by simp [c543, c546, c549, k550, a552, b553, c554, q555, d556, e557, q558, q559, q560, c602, k606, a608, b609, c610, q611, d612, e613, q614, q615, q616, c930, a932, b933, c934, a944, b945, c946, q947, d948, e949, c951, c960, g1005, g1008], by simp [c543, c546, c549, k550, a552, b553, c554, q555, d556, e557, q558, q559, q560, c602, k606, a608, b609, c610, q611, d612, e613, q614, q615, q616, c930, a932, b933, c934, a944, b945, c946, q947, d948, e949, c951, c960, g1005, g1008]⟩
    obtain ⟨v154, r1011, a1012, b1013, c1014, q1015, d1016, e1017, hx⟩ := rdA_elim hx
    obtain ⟨v155, r1018, a1019, b1020, c1021, hx⟩ := rd_elim hx
    simp only [go_sem, seval, c543, c546, c549, k550, a552, b553, c554, q555, d556, e557, q558, q559, q560, c602, k606, a608, b609, c610, q611, d612, e613, q614, q615, q616, c930, a932, b933, c934, a944, b945, c946, q947, d948, e949, c951, c960, g1005, g1008, a1012, b1013, c1014, q1015, d1016, e1017, a1019, b1020, c1021]
    repeat refine And.intro (by first | omega | (simp; done) | (simp; omega)) ?_
    refine VGdO hx (fun g1022 hx => ?_) (fun g1022 hx => ?_)
    · simp only [go_sem, seval, c543, c546, c549, k550, a552, b553, c554, q555, d556, e557, q558, q559, q560, c602, k606, a608, b609, c610, q611, d612, e613, q614, q615, q616, c930, a932, b933, c934, a944, b945, c946, q947, d948, e949, c951, c960, g1005, g1008, a1012, b1013, c1014, q1015, d1016, e1017, a1019, b1020, c1021, g1022]
      refine hK _ _ (by kernel_rfl) (by simp [c543, c546, c549, k550, a552, b553, c554, q555, d556, e557, q558, q559, q560, c602, k606, a608, b609, c610, q611, d612, e613, q614, q615, q616, c930, a932, b933, c934, a944, b945, c946, q947, d948, e949, c951, c960, g1005, g1008, a1012, b1013, c1014, q1015, d1016, e1017, a1019, b1020, c1021, g1022]) ?_
      clear hK K
      refine Walk.condT rfl (Walk.seq (Walk.region' rfl fun K hK => ?_))
      simp only [go_sem, seval, c543, c546, c549, k550, a552, b553, c554, q555, d556, e557, q558, q559, q560, c602, k606, a608, b609, c610, q611, d612, e613, q614, q615, q616, c930, a932, b933, c934, a944, b945, c946, q947, d948, e949, c951, c960, g1005, g1008, a1012, b1013, c1014, q1015, d1016, e1017, a1019, b1020, c1021, g1022]
      refine hK _ ?_
      clear hK K
      obtain ⟨z1023, e1024, hx⟩ := exit_elim hx
      rw [hr927 z1023 e1024] at hx
      refine Walk.weaken ⟨[(4, .nils), (5, .d (.int .i64 29))], []⟩ (by simp [c543, c546, c549, k550, a552, b553, c554, q555, d556, e557, q558, q559, q560, c602, k606, a608, b609, c610, q611, d612, e613, q614, q615, q616, c930, a932, b933, c934, a944, b945, c946, q947, d948, e949, c951, c960, g1005, g1008, a1012, b1013, c1014, q1015, d1016, e1017, a1019, b1020, c1021, g1022] <;> omega) (by simp [c543, c546, c549, k550, a552, b553, c554, q555, d556, e557, q558, q559, q560, c602, k606, a608, b609, c610, q611, d612, e613, q614, q615, q616, c930, a932, b933, c934, a944, b945, c946, q947, d948, e949, c951, c960, g1005, g1008, a1012, b1013, c1014, q1015, d1016, e1017, a1019, b1020, c1021, g1022] <;> omega) ?_
      refine Walk.nil2d [(4, .d (.sl (List.map (lD iD) []))), (5, .d (.int .i64 29))] [] (by simp) (by simp) ?_
      obtain rfl := Option.some.inj hx
      exact Walk.ret ⟨by simp [c543, c546, c549, k550, a552, b553, c554, q555, d556, e557, q558, q559, q560, c602, k606, a608, b609, c610, q611, d612, e613, q614, q615, q616, c930, a932, b933, c934, a944, b945, c946, q947, d948, e949, c951, c960, g1005, g1008, a1012, b1013, c1014, q1015, d1016, e1017, a1019, b1020, c1021, g1022], by simp [c543, c546, c549, k550, a552, b553, c554, q555, d556, e557, q558, q559, q560, c602, k606, a608, b609, c610, q611, d612, e613, q614, q615, q616, c930, a932, b933, c934, a944, b945, c946, q947, d948, e949, c951, c960, g1005, g1008, a1012, b1013, c1014, q1015, d1016, e1017, a1019, b1020, c1021, g1022]⟩
    simp only [go_sem, seval, c543, c546, c549, k550, a552, b553, c554, q555, d556, e557, q558, q559, q560, c602, k606, a608, b609, c610, q611, d612, e613, q614, q615, q616, c930, a932, b933, c934, a944, b945, c946, q947, d948, e949, c951, c960, g1005, g1008, a1012, b1013, c1014, q1015, d1016, e1017, a1019, b1020, c1021, g1022]
    refine VGdO hx (fun g1025 hx => ?_) (fun g1025 hx => ?_)
    · simp only [go_sem, seval, c543, c546, c549, k550, a552, b553, c554, q555, d556, e557, q558, q559, q560, c602, k606, a608, b609, c610, q611, d612, e613, q614, q615, q616, c930, a932, b933, c934, a944, b945, c946, q947, d948, e949, c951, c960, g1005, g1008, a1012, b1013, c1014, q1015, d1016, e1017, a1019, b1020, c1021, g1022, g1025]
      refine hK _ _ (by kernel_rfl) (by simp [c543, c546, c549, k550, a552, b553, c554, q555, d556, e557, q558, q559, q560, c602, k606, a608, b609, c610, q611, d612, e613, q614, q615, q616, c930, a932, b933, c934, a944, b945, c946, q947, d948, e949, c951, c960, g1005, g1008, a1012, b1013, c1014, q1015, d1016, e1017, a1019, b1020, c1021, g1022, g1025]) ?_
      clear hK K
      refine Walk.condT rfl (Walk.seq (Walk.region' rfl fun K hK => ?_))
      simp only [go_sem, seval, c543, c546, c549, k550, a552, b553, c554, q555, d556, e557, q558, q559, q560, c602, k606, a608, b609, c610, q611, d612, e613, q614, q615, q616, c930, a932, b933, c934, a944, b945, c946, q947, d948, e949, c951, c960, g1005, g1008, a1012, b1013, c1014, q1015, d1016, e1017, a1019, b1020, c1021, g1022, g1025]
      refine hK _ ?_
      clear hK K
      obtain ⟨z1026, e1027, hx⟩ := exit_elim hx
      rw [hr927 z1026 e1027] at hx
      refine Walk.weaken ⟨[(4, .nils), (5, .d (.int .i64 29))], []⟩ (by simp [c543, c546, c549, k550, a552, b553, c554, q555, d556, e557, q558, q559, q560, c602, k606, a608, b609, c610, q611, d612, e613, q614, q615, q616, c930, a932, b933, c934, a944, b945, c946, q947, d948, e949, c951, c960, g1005, g1008, a1012, b1013, c1014, q1015, d1016, e1017, a1019, b1020, c1021, g1022, g1025] <;> omega) (by simp [c543, c546, c549, k550, a552, b553, c554, q555, d556, e557, q558, q559, q560, c602, k606, a608, b609, c610, q611, d612, e613, q614, q615, q616, c930, a932, b933, c934, a944, b945, c946, q947, d948, e949, c951, c960, g1005, g1008, a1012, b1013, c1014, q1015, d1016, e1017, a1019, b1020, c1021, g1022, g1025] <;> omega) ?_
      refine Walk.nil2d [(4, .d (.sl (List.map (lD iD) []))), (5, .d (.int .i64 29))] [] (by simp) (by simp) ?_
      obtain rfl := Option.some.inj hx
      exact Walk.ret ⟨by simp [c543, c546, c549, k550, a552, b553, c554, q555, d556, e557, q558, q559, q560, c602, k606, a608, b609, c610, q611, d612, e613, q614, q615, q616, c930, a932, b933, c934, a944, b945, c946, q947, d948, e949, c951, c960, g1005, g1008, a1012, b1013, c1014, q1015, d1016, e1017, a1019, b1020, c1021, g1022, g1025], by simp [c543, c546, c549, k550, a552, b553, c554, q555, d556, e557, q558, q559, q560, c602, k606, a608, b609, c610, q611, d612, e613, q614, q615, q616, c930, a932, b933, c934, a944, b945, c946, q947, d948, e949, c951, c960, g1005, g1008, a1012, b1013, c1014, q1015, d1016, e1017, a1019, b1020, c1021, g1022, g1025]⟩
    simp only [go_sem, seval, c543, c546, c549, k550, a552, b553, c554, q555, d556, e557, q558, q559, q560, c602, k606, a608, b609, c610, q611, d612, e613, q614, q615, q616, c930, a932, b933, c934, a944, b945, c946, q947, d948, e949, c951, c960, g1005, g1008, a1012, b1013, c1014, q1015, d1016, e1017, a1019, b1020, c1021, g1022, g1025]
    refine VGdO hx (fun g1028 hx => ?_) (fun g1028 hx => ?_)
    · simp only [go_sem, seval, c543, c546, c549, k550, a552, b553, c554, q555, d556, e557, q558, q559, q560, c602, k606, a608, b609, c610, q611, d612, e613, q614, q615, q616, c930, a932, b933, c934, a944, b945, c946, q947, d948, e949, c951, c960, g1005, g1008, a1012, b1013, c1014, q1015, d1016, e1017, a1019, b1020, c1021, g1022, g1025, g1028]
      refine hK _ _ (by kernel_rfl) (by simp [c543, c546, c549, k550, a552, b553, c554, q555, d556, e557, q558, q559, q560, c602, k606, a608, b609, c610, q611, d612, e613, q614, q615, q616, c930, a932, b933, c934, a944, b945, c946, q947, d948, e949, c951, c960, g1005, g1008, a1012, b1013, c1014, q1015, d1016, e1017, a1019, b1020, c1021, g1022, g1025, g1028]) ?_
      clear hK K
      refine Walk.condT rfl (Walk.seq (Walk.region' rfl fun K hK => ?_))
      simp only [go_sem, seval, c543, c546, c549, k550, a552, b553, c554, q555, d556, e557, q558, q559, q560, c602, k606, a608, b609, c610, q611, d612, e613, q614, q615, q616, c930, a932, b933, c934, a944, b945, c946, q947, d948, e949, c951, c960, g1005, g1008, a1012, b1013, c1014, q1015, d1016, e1017, a1019, b1020, c1021, g1022, g1025, g1028]
      refine hK _ ?_
      clear hK K
      obtain ⟨z1029, e1030, hx⟩ := exit_elim hx
      rw [hr927 z1029 e1030] at hx
      refine Walk.weaken ⟨[(4, .nils), (5, .d (.int .i64 29))], []⟩ (by simp [c543, c546, c549, k550, a552, b553, c554, q555, d556, e557, q558, q559, q560, c602, k606, a608, b609, c610, q611, d612, e613, q614, q615, q616, c930, a932, b933, c934, a944, b945, c946, q947, d948, e949, c951, c960, g1005, g1008, a1012, b1013, c1014, q1015, d1016, e1017, a1019, b1020, c1021, g1022, g1025, g1028] <;> omega) (by simp [c543, c546, c549, k550, a552, b553, c554, q555, d556, e557, q558, q559, q560, c602, k606, a608, b609, c610, q611, d612, e613, q614, q615, q616, c930, a932, b933, c934, a944, b945, c946, q947, d948, e949, c951, c960, g1005, g1008, a1012, b1013, c1014, q1015, d1016, e1017, a1019, b1020, c1021, g1022, g1025, g1028] <;> omega) ?_
      refine Walk.nil2d [(4, .d (.sl (List.map (lD iD) []))), (5, .d (.int .i64 29))] [] (by simp) (by simp) ?_
      obtain rfl := Option.some.inj hx
      exact Walk.ret ⟨by simp [c543, c546, c549, k550, a552, b553, c554, q555, d556, e557, q558, q559, q560, c602, k606, a608, b609, c610, q611, d612, e613, q614, q615, q616, c930, a932, b933, c934, a944, b945, c946, q947, d948, e949, c951, c960, g1005, g1008, a1012, b1013, c1014, q1015, d1016, e1017, a1019, b1020, c1021, g1022, g1025, g1028], by simp [c543, c546, c549, k550, a552, b553, c554, q555, d556, e557, q558, q559, q560, c602, k606, a608, b609, c610, q611, d612, e613, q614, q615, q616, c930, a932, b933, c934, a944, b945, c946, q947, d948, e949, c951, c960, g1005, g1008, a1012, b1013, c1014, q1015, d1016, e1017, a1019, b1020, c1021, g1022, g1025, g1028]⟩
    simp only [go_sem, seval, c543, c546, c549, k550, a552, b553, c554, q555, d556, e557, q558, q559, q560, c602, k606, a608, b609, c610, q611, d612, e613, q614, q615, q616, c930, a932, b933, c934, a944, b945, c946, q947, d948, e949, c951, c960, g1005, g1008, a1012, b1013, c1014, q1015, d1016, e1017, a1019, b1020, c1021, g1022, g1025, g1028]
    refine VGdO hx (fun g1031 hx => ?_) (fun g1031 hx => ?_)
    · simp only [go_sem, seval, c543, c546, c549, k550, a552, b553, c554, q555, d556, e557, q558, q559, q560, c602, k606, a608, b609, c610, q611, d612, e613, q614, q615, q616, c930, a932, b933, c934, a944, b945, c946, q947, d948, e949, c951, c960, g1005, g1008, a1012, b1013, c1014, q1015, d1016, e1017, a1019, b1020, c1021, g1022, g1025, g1028, g1031]
      refine hK _ _ (by kernel_rfl) (by simp [c543, c546, c549, k550, a552, b553, c554, q555, d556, e557, q558, q559, q560, c602, k606, a608, b609, c610, q611, d612, e613, q614, q615, q616, c930, a932, b933, c934, a944, b945, c946, q947, d948, e949, c951, c960, g1005, g1008, a1012, b1013, c1014, q1015, d1016, e1017, a1019, b1020, c1021, g1022, g1025, g1028, g1031]) ?_
      clear hK K
      refine Walk.condT rfl (Walk.seq (Walk.region' rfl fun K hK => ?_))
      simp only [go_sem, seval, c543, c546, c549, k550, a552, b553, c554, q555, d556, e557, q558, q559, q560, c602, k606, a608, b609, c610, q611, d612, e613, q614, q615, q616, c930, a932, b933, c934, a944, b945, c946, q947, d948, e949, c951, c960, g1005, g1008, a1012, b1013, c1014, q1015, d1016, e1017, a1019, b1020, c1021, g1022, g1025, g1028, g1031]
      refine hK _ ?_
      clear hK K
      obtain ⟨z1032, e1033, hx⟩ := exit_elim hx
      rw [hr927 z1032 e1033] at hx
      refine Walk.weaken ⟨[(4, .nils), (5, .d (.int .i64 29))], []⟩ (by simp [c543, c546, c549, k550, a552, b553, c554, q555, d556, e557, q558, q559, q560, c602, k606, a608, b609, c610, q611, d612, e613, q614, q615, q616, c930, a932, b933, c934, a944, b945, c946, q947, d948, e949, c951, c960, g1005, g1008, a1012, b1013, c1014, q1015, d1016, e1017, a1019, b1020, c1021, g1022, g1025, g1028, g1031] <;> omega) (by simp [c543, c546, c549, k550, a552, b553, c554, q555, d556, e557, q558, q559, q560, c602, k606, a608, b609, c610, q611, d612, e613, q614, q615, q616, c930, a932, b933, c934, a944, b945, c946, q947, d948, e949, c951, c960, g1005, g1008, a1012, b1013, c1014, q1015, d1016, e1017, a1019, b1020, c1021, g1022, g1025, g1028, g1031] <;> omega) ?_
      refine Walk.nil2d [(4, .d (.sl (List.map (lD iD) []))), (5, .d (.int .i64 29))] [] (by simp) (by simp) ?_
      obtain rfl := Option.some.inj hx
      exact Walk.ret ⟨by simp [c543, c546, c549, k550, a552, b553, c554, q555, d556, e557, q558, q559, q560, c602, k606, a608, b609, c610, q611, d612, e613, q614, q615, q616, c930, a932, b933, c934, a944, b945, c946, q947, d948, e949, c951, c960, g1005, g1008, a1012, b1013, c1014, q1015, d1016, e1017, a1019, b1020, c1021, g1022, g1025, g1028, g1031], by simp [c543, c546, c549, k550, a552, b553, c554, q555, d556, e557, q558, q559, q560, c602, k606, a608, b609, c610, q611, d612, e613, q614, q615, q616, c930, a932, b933, c934, a944, b945, c946, q947, d948, e949, c951, c960, g1005, g1008, a1012, b1013, c1014, q1015, d1016, e1017, a1019, b1020, c1021, g1022, g1025, g1028, g1031]⟩
    simp only [go_sem, seval, c543, c546, c549, k550, a552, b553, c554, q555, d556, e557, q558, q559, q560, c602, k606, a608, b609, c610, q611, d612, e613, q614, q615, q616, c930, a932, b933, c934, a944, b945, c946, q947, d948, e949, c951, c960, g1005, g1008, a1012, b1013, c1014, q1015, d1016, e1017, a1019, b1020, c1021, g1022, g1025, g1028, g1031]
    refine VGdO hx (fun g1034 hx => ?_) (fun g1034 hx => ?_)
    · simp only [go_sem, seval, c543, c546, c549, k550, a552, b553, c554, q555, d556, e557, q558, q559, q560, c602, k606, a608, b609, c610, q611, d612, e613, q614, q615, q616, c930, a932, b933, c934, a944, b945, c946, q947, d948, e949, c951, c960, g1005, g1008, a1012, b1013, c1014, q1015, d1016, e1017, a1019, b1020, c1021, g1022, g1025, g1028, g1031, g1034]
      refine hK _ _ (by kernel_rfl) (by simp [c543, c546, c549, k550, a552, b553, c554, q555, d556, e557, q558, q559, q560, c602, k606, a608, b609, c610, q611, d612, e613, q614, q615, q616, c930, a932, b933, c934, a944, b945, c946, q947, d948, e949, c951, c960, g1005, g1008, a1012, b1013, c1014, q1015, d1016, e1017, a1019, b1020, c1021, g1022, g1025, g1028, g1031, g1034]) ?_
      clear hK K
      refine Walk.condT rfl (Walk.seq (Walk.region' rfl fun K hK => ?_))
      simp only [go_sem, seval, c543, c546, c549, k550, a552, b553, c554, q555, d556, e557, q558, q559, q560, c602, k606, a608, b609, c610, q611, d612, e613, q614, q615, q616, c930, a932, b933, c934, a944, b945, c946, q947, d948, e949, c951, c960, g1005, g1008, a1012, b1013, c1014, q1015, d1016, e1017, a1019, b1020, c1021, g1022, g1025, g1028, g1031, g1034]
      refine hK _ ?_
      clear hK K
      obtain ⟨z1035, e1036, hx⟩ := exit_elim hx
      rw [hr927 z1035 e1036] at hx
      refine Walk.weaken ⟨[(4, .nils), (5, .d (.int .i64 29))], []⟩ (by simp [c543, c546, c549, k550, a552, b553, c554, q555, d556, e557, q558, q559, q560, c602, k606, a608, b609, c610, q611, d612, e613, q614, q615, q616, c930, a932, b933, c934, a944, b945, c946, q947, d948, e949, c951, c960, g1005, g1008, a1012, b1013, c1014, q1015, d1016, e1017, a1019, b1020, c1021, g1022, g1025, g1028, g1031, g1034] <;> omega) (by simp [c543, c546, c549, k550, a552, b553, c554, q555, d556, e557, q558, q559, q560, c602, k606, a608, b609, c610, q611, d612, e613, q614, q615, q616, c930, a932, b933, c934, a944, b945, c946, q947, d948, e949, c951, c960, g1005, g1008, a1012, b1013, c1014, q1015, d1016, e1017, a1019, b1020, c1021, g1022, g1025, g1028, g1031, g1034] <;> omega) ?_
      refine Walk.nil2d [(4, .d (.sl (List.map (lD iD) []))), (5, .d (.int .i64 29))] [] (by simp) (by simp) ?_
      obtain rfl := Option.some.inj hx
      exact Walk.ret ⟨by simp [c543, c546, c549, k550, a552, b553, c554, q555, d556, e557, q558, q559, q560, c602, k606, a608, b609, c610, q611, d612, e613, q614, q615, q616, c930, a932, b933, c934, a944, b945, c946, q947, d948, e949, c951, c960, g1005, g1008, a1012, b1013, c1014, q1015, d1016, e1017, a1019, b1020, c1021, g1022, g1025, g1028, g1031, g1034], by simp [c543, c546, c549, k550, a552, b553, c554, q555, d556, e557, q558, q559, q560, c602, k606, a608, b609, c610, q611, d612, e613, q614, q615, q616, c930, a932, b933, c934, a944, b945, c946, q947, d948, e949, c951, c960, g1005, g1008, a1012, b1013, c1014, q1015, d1016, e1017, a1019, b1020, c1021, g1022, g1025, g1028, g1031, g1034]⟩
    simp only [go_sem, seval, c543, c546, c549, k550, a552, b553, c554, q555, d556, e557, q558, q559, q560, c602, k606, a608, b609, c610, q611, d612, e613, q614, q615, q616, c930, a932, b933, c934, a944, b945, c946, q947, d948, e949, c951, c960, g1005, g1008, a1012, b1013, c1014, q1015, d1016, e1017, a1019, b1020, c1021, g1022, g1025, g1028, g1031, g1034]
    refine VGdO hx (fun g1037 hx => ?_) (fun g1037 hx => ?_)
    · simp only [go_sem, seval, c543, c546, c549, k550, a552, b553, c554, q555, d556, e557, q558, q559, q560, c602, k606, a608, b609, c610, q611, d612, e613, q614, q615, q616, c930, a932, b933, c934, a944, b945, c946, q947, d948, e949, c951, c960, g1005, g1008, a1012, b1013, c1014, q1015, d1016, e1017, a1019, b1020, c1021, g1022, g1025, g1028, g1031, g1034, g1037]
      refine hK _ _ (by kernel_rfl) (by simp [c543, c546, c549, k550, a552, b553, c554, q555, d556, e557, q558, q559, q560, c602, k606, a608, b609, c610, q611, d612, e613, q614, q615, q616, c930, a932, b933, c934, a944, b945, c946, q947, d948, e949, c951, c960, g1005, g1008, a1012, b1013, c1014, q1015, d1016, e1017, a1019, b1020, c1021, g1022, g1025, g1028, g1031, g1034, g1037]) ?_
      clear hK K
      refine Walk.condT rfl (Walk.seq (Walk.region' rfl fun K hK => ?_))
      simp only [go_sem, seval, c543, c546, c549, k550, a552, b553, c554, q555, d556, e557, q558, q559, q560, c602, k606, a608, b609, c610, q611, d612, e613, q614, q615, q616, c930, a932, b933, c934, a944, b945, c946, q947, d948, e949, c951, c960, g1005, g1008, a1012, b1013, c1014, q1015, d1016, e1017, a1019, b1020, c1021, g1022, g1025, g1028, g1031, g1034, g1037]
      refine hK _ ?_
      clear hK K
      obtain ⟨z1038, e1039, hx⟩ := exit_elim hx
      rw [hr927 z1038 e1039] at hx
      refine Walk.weaken ⟨[(4, .nils), (5, .d (.int .i64 29))], []⟩ (by simp [c543, c546, c549, k550, a552, b553, c554, q555, d556, e557, q558, q559, q560, c602, k606, a608, b609, c610, q611, d612, e613, q614, q615, q616, c930, a932, b933, c934, a944, b945, c946, q947, d948, e949, c951, c960, g1005, g1008, a1012, b1013, c1014, q1015, d1016, e1017, a1019, b1020, c1021, g1022, g1025, g1028, g1031, g1034, g1037] <;> omega) (by simp [c543, c546, c549, k550, a552, b553, c554, q555, d556, e557, q558, q559, q560, c602, k606, a608, b609, c610, q611, d612, e613, q614, q615, q616, c930, a932, b933, c934, a944, b945, c946, q947, d948, e949, c951, c960, g1005, g1008, a1012, b1013, c1014, q1015, d1016, e1017, a1019, b1020, c1021, g1022, g1025, g1028, g1031, g1034, g1037] <;> omega) ?_
      refine Walk.nil2d [(4, .d (.sl (List.map (lD iD) []))), (5, .d (.int .i64 29))] [] (by simp) (by simp) ?_
      obtain rfl := Option.some.inj hx
      exact Walk.ret ⟨by simp [c543, c546, c549, k550, a552, b553, c554, q555, d556, e557, q558, q559, q560, c602, k606, a608, b609, c610, q611, d612, e613, q614, q615, q616, c930, a932, b933, c934, a944, b945, c946, q947, d948, e949, c951, c960, g1005, g1008, a1012, b1013, c1014, q1015, d1016, e1017, a1019, b1020, c1021, g1022, g1025, g1028, g1031, g1034, g1037], by simp [c543, c546, c549, k550, a552, b553, c554, q555, d556, e557, q558, q559, q560, c602, k606, a608, b609, c610, q611, d612, e613, q614, q615, q616, c930, a932, b933, c934, a944, b945, c946, q947, d948, e949, c951, c960, g1005, g1008, a1012, b1013, c1014, q1015, d1016, e1017, a1019, b1020, c1021, g1022, g1025, g1028, g1031, g1034, g1037]⟩
    obtain ⟨v156, r1040, a1041, b1042, c1043, q1044, d1045, e1046, hx⟩ := rdA_elim hx
    simp only [go_sem, seval, c543, c546, c549, k550, a552, b553, c554, q555, d556, e557, q558, q559, q560, c602, k606, a608, b609, c610, q611, d612, e613, q614, q615, q616, c930, a932, b933, c934, a944, b945, c946, q947, d948, e949, c951, c960, g1005, g1008, a1012, b1013, c1014, q1015, d1016, e1017, a1019, b1020, c1021, g1022, g1025, g1028, g1031, g1034, g1037, a1041, b1042, c1043, q1044, d1045, e1046]
    repeat refine And.intro (by first | omega | (simp; done) | (simp; omega)) ?_
    refine VGdO hx (fun g1047 hx => ?_) (fun g1047 hx => ?_)
    · simp only [go_sem, seval, c543, c546, c549, k550, a552, b553, c554, q555, d556, e557, q558, q559, q560, c602, k606, a608, b609, c610, q611, d612, e613, q614, q615, q616, c930, a932, b933, c934, a944, b945, c946, q947, d948, e949, c951, c960, g1005, g1008, a1012, b1013, c1014, q1015, d1016, e1017, a1019, b1020, c1021, g1022, g1025, g1028, g1031, g1034, g1037, a1041, b1042, c1043, q1044, d1045, e1046, g1047]
      refine hK _ _ (by kernel_rfl) (by simp [c543, c546, c549, k550, a552, b553, c554, q555, d556, e557, q558, q559, q560, c602, k606, a608, b609, c610, q611, d612, e613, q614, q615, q616, c930, a932, b933, c934, a944, b945, c946, q947, d948, e949, c951, c960, g1005, g1008, a1012, b1013, c1014, q1015, d1016, e1017, a1019, b1020, c1021, g1022, g1025, g1028, g1031, g1034, g1037, a1041, b1042, c1043, q1044, d1045, e1046, g1047]) ?_
      clear hK K
      refine Walk.condT rfl (Walk.seq (Walk.region' rfl fun K hK => ?_))
      simp only [go_sem, seval, c543, c546, c549, k550, a552, b553, c554, q555, d556, e557, q558, q559, q560, c602, k606, a608, b609, c610, q611, d612, e613, q614, q615, q616, c930, a932, b933, c934, a944, b945, c946, q947, d948, e949, c951, c960, g1005, g1008, a1012, b1013, c1014, q1015, d1016, e1017, a1019, b1020, c1021, g1022, g1025, g1028, g1031, g1034, g1037, a1041, b1042, c1043, q1044, d1045, e1046, g1047]
      refine hK _ ?_
      clear hK K
      obtain ⟨z1048, e1049, hx⟩ := exit_elim hx
      rw [hr927 z1048 e1049] at hx
      refine Walk.weaken ⟨[(4, .nils), (5, .d (.int .i64 29))], []⟩ (by simp [c543, c546, c549, k550, a552, b553, c554, q555, d556, e557, q558, q559, q560, c602, k606, a608, b609, c610, q611, d612, e613, q614, q615, q616, c930, a932, b933, c934, a944, b945, c946, q947, d948, e949, c951, c960, g1005, g1008, a1012, b1013, c1014, q1015, d1016, e1017, a1019, b1020, c1021, g1022, g1025, g1028, g1031, g1034, g1037, a1041, b1042, c1043, q1044, d1045, e1046, g1047] <;> omega) (by simp [c543, c546, c549, k550, a552, b553, c554, q555, d556, e557, q558, q559, q560, c602, k606, a608, b609, c610, q611, d612, e613, q614, q615, q616, c930, a932, b933, c934, a944, b945, c946, q947, d948, e949, c951, c960, g1005, g1008, a1012, b1013, c1014, q1015, d1016, e1017, a1019, b1020, c1021, g1022, g1025, g1028, g1031, g1034, g1037, a1041, b1042, c1043, q1044, d1045, e1046, g1047] <;> omega) ?_
      refine Walk.nil2d [(4, .d (.sl (List.map (lD iD) []))), (5, .d (.int .i64 29))] [] (by simp) (by simp) ?_
      obtain rfl := Option.some.inj hx
      exact Walk.ret ⟨by simp [c543, c546, c549, k550, a552, b553, c554, q555, d556, e557, q558, q559, q560, c602, k606, a608, b609, c610, q611, d612, e613, q614, q615, q616, c930, a932, b933, c934, a944, b945, c946, q947, d948, e949, c951, c960, g1005, g1008, a1012, b1013, c1014, q1015, d1016, e1017, a1019, b1020, c1021, g1022, g1025, g1028, g1031, g1034, g1037, a1041, b1042, c1043, q1044, d1045, e1046, g1047], by simp [c543, c546, c549, k550, a552, b553, c554, q555, d556, e557, q558, q559, q560, c602, k606, a608, b609, c610, q611, d612, e613, q614, q615, q616, c930, a932, b933, c934, a944, b945, c946, q947, d948, e949, c951, c960, g1005, g1008, a1012, b1013, c1014, q1015, d1016, e1017, a1019, b1020, c1021, g1022, g1025, g1028, g1031, g1034, g1037, a1041, b1042, c1043, q1044, d1045, e1046, g1047]⟩
    obtain ⟨v157, r1050, a1051, b1052, c1053, q1054, d1055, e1056, hx⟩ := rdA_elim hx
    simp only [go_sem, seval, c543, c546, c549, k550, a552, b553, c554, q555, d556, e557, q558, q559, q560, c602, k606, a608, b609, c610, q611, d612, e613, q614, q615, q616, c930, a932, b933, c934, a944, b945, c946, q947, d948, e949, c951, c960, g1005, g1008, a1012, b1013, c1014, q1015, d1016, e1017, a1019, b1020, c1021, g1022, g1025, g1028, g1031, g1034, g1037, a1041, b1042, c1043, q1044, d1045, e1046, g1047, a1051, b1052, c1053, q1054, d1055, e1056]
    repeat refine And.intro (by first | omega | (simp; done) | (simp; omega)) ?_
    refine hK _ _ (by kernel_rfl) (by simp [c543, c546, c549, k550, a552, b553, c554, q555, d556, e557, q558, q559, q560, c602, k606, a608, b609, c610, q611, d612, e613, q614, q615, q616, c930, a932, b933, c934, a944, b945, c946, q947, d948, e949, c951, c960, g1005, g1008, a1012, b1013, c1014, q1015, d1016, e1017, a1019, b1020, c1021, g1022, g1025, g1028, g1031, g1034, g1037, a1041, b1042, c1043, q1044, d1045, e1046, g1047, a1051, b1052, c1053, q1054, d1055, e1056]) ?_
    clear hK K
    refine Walk.condO rfl hx (fun c1058 hx => ?_) (fun c1058 hx => ?_)
    · refine Walk.seq (Walk.region' rfl fun K hK => ?_)
      simp only [go_sem, seval, c543, c546, c549, k550, a552, b553, c554, q555, d556, e557, q558, q559, q560, c602, k606, a608, b609, c610, q611, d612, e613, q614, q615, q616, c930, a932, b933, c934, a944, b945, c946, q947, d948, e949, c951, c960, g1005, g1008, a1012, b1013, c1014, q1015, d1016, e1017, a1019, b1020, c1021, g1022, g1025, g1028, g1031, g1034, g1037, a1041, b1042, c1043, q1044, d1045, e1046, g1047, a1051, b1052, c1053, q1054, d1055, e1056, c1058]
      refine hK _ ?_
      clear hK K
      obtain ⟨z1059, e1060, hx⟩ := exit_elim hx
      rw [hr927 z1059 e1060] at hx
      refine Walk.weaken ⟨[(4, .nils), (5, .d (.int .i64 29))], []⟩ (by simp [c543, c546, c549, k550, a552, b553, c554, q555, d556, e557, q558, q559, q560, c602, k606, a608, b609, c610, q611, d612, e613, q614, q615, q616, c930, a932, b933, c934, a944, b945, c946, q947, d948, e949, c951, c960, g1005, g1008, a1012, b1013, c1014, q1015, d1016, e1017, a1019, b1020, c1021, g1022, g1025, g1028, g1031, g1034, g1037, a1041, b1042, c1043, q1044, d1045, e1046, g1047, a1051, b1052, c1053, q1054, d1055, e1056, c1058] <;> omega) (by simp [c543, c546, c549, k550, a552, b553, c554, q555, d556, e557, q558, q559, q560, c602, k606, a608, b609, c610, q611, d612, e613, q614, q615, q616, c930, a932, b933, c934, a944, b945, c946, q947, d948, e949, c951, c960, g1005, g1008, a1012, b1013, c1014, q1015, d1016, e1017, a1019, b1020, c1021, g1022, g1025, g1028, g1031, g1034, g1037, a1041, b1042, c1043, q1044, d1045, e1046, g1047, a1051, b1052, c1053, q1054, d1055, e1056, c1058] <;> omega) ?_
      refine Walk.nil2d [(4, .d (.sl (List.map (lD iD) []))), (5, .d (.int .i64 29))] [] (by simp) (by simp) ?_
      obtain rfl := Option.some.inj hx
      exact Walk.ret ⟨by simp [c543, c546, c549, k550, a552, b553, c554, q555, d556, e557, q558, q559, q560, c602, k606, a608, b609, c610, q611, d612, e613, q614, q615, q616, c930, a932, b933, c934, a944, b945, c946, q947, d948, e949, c951, c960, g1005, g1008, a1012, b1013, c1014, q1015, d1016, e1017, a1019, b1020, c1021, g1022, g1025, g1028, g1031, g1034, g1037, a1041, b1042, c1043, q1044, d1045, e1046, g1047, a1051, b1052, c1053, q1054, d1055, e1056, c1058], by simp [c543, c546, c549, k550, a552, b553, c554, q555, d556, e557, q558, q559, q560, c602, k606, a608, b609, c610, q611, d612, e613, q614, q615, q616, c930, a932, b933, c934, a944, b945, c946, q947, d948, e949, c951, c960, g1005, g1008, a1012, b1013, c1014, q1015, d1016, e1017, a1019, b1020, c1021, g1022, g1025, g1028, g1031, g1034, g1037, a1041, b1042, c1043, q1044, d1045, e1046, g1047, a1051, b1052, c1053, q1054, d1055, e1056, c1058]⟩
    refine Walk.skip (Walk.seq (Walk.drawn' rfl mixed fun K hK => ?_))
    obtain ⟨v158, h1061, hx⟩ := bind_elim hx
    have w1062 := ((ref09_child_ok v154 v142.Var 0 _ h1061).swap 2000 101013)
    simp only [renE, renL, AV.ren, AV.rens, AObj.ren, swp, Option.map_some, reduceIte, Nat.reduceEqDiff] at w1062
    simp only [go_sem, seval, c543, c546, c549, k550, a552, b553, c554, q555, d556, e557, q558, q559, q560, c602, k606, a608, b609, c610, q611, d612, e613, q614, q615, q616, c930, a932, b933, c934, a944, b945, c946, q947, d948, e949, c951, c960, g1005, g1008, a1012, b1013, c1014, q1015, d1016, e1017, a1019, b1020, c1021, g1022, g1025, g1028, g1031, g1034, g1037, a1041, b1042, c1043, q1044, d1045, e1046, g1047, a1051, b1052, c1053, q1054, d1055, e1056, c1058]
    repeat refine And.intro (by first | omega | (simp; done) | (simp; omega)) ?_
    refine VCl.pure rfl (by simp only [go_sem, seval, c543, c546, c549, k550, a552, b553, c554, q555, d556, e557, q558, q559, q560, c602, k606, a608, b609, c610, q611, d612, e613, q614, q615, q616, c930, a932, b933, c934, a944, b945, c946, q947, d948, e949, c951, c960, g1005, g1008, a1012, b1013, c1014, q1015, d1016, e1017, a1019, b1020, c1021, g1022, g1025, g1028, g1031, g1034, g1037, a1041, b1042, c1043, q1044, d1045, e1046, g1047, a1051, b1052, c1053, q1054, d1055, e1056, c1058]; try simp) (w1062) (by simp only [go_sem, seval, c543, c546, c549, k550, a552, b553, c554, q555, d556, e557, q558, q559, q560, c602, k606, a608, b609, c610, q611, d612, e613, q614, q615, q616, c930, a932, b933, c934, a944, b945, c946, q947, d948, e949, c951, c960, g1005, g1008, a1012, b1013, c1014, q1015, d1016, e1017, a1019, b1020, c1021, g1022, g1025, g1028, g1031, g1034, g1037, a1041, b1042, c1043, q1044, d1045, e1046, g1047, a1051, b1052, c1053, q1054, d1055, e1056, c1058]; try simp) (by simp only [go_sem, seval, c543, c546, c549, k550, a552, b553, c554, q555, d556, e557, q558, q559, q560, c602, k606, a608, b609, c610, q611, d612, e613, q614, q615, q616, c930, a932, b933, c934, a944, b945, c946, q947, d948, e949, c951, c960, g1005, g1008, a1012, b1013, c1014, q1015, d1016, e1017, a1019, b1020, c1021, g1022, g1025, g1028, g1031, g1034, g1037, a1041, b1042, c1043, q1044, d1045, e1046, g1047, a1051, b1052, c1053, q1054, d1055, e1056, c1058]; try simp) (by simp only [go_sem, seval, c543, c546, c549, k550, a552, b553, c554, q555, d556, e557, q558, q559, q560, c602, k606, a608, b609, c610, q611, d612, e613, q614, q615, q616, c930, a932, b933, c934, a944, b945, c946, q947, d948, e949, c951, c960, g1005, g1008, a1012, b1013, c1014, q1015, d1016, e1017, a1019, b1020, c1021, g1022, g1025, g1028, g1031, g1034, g1037, a1041, b1042, c1043, q1044, d1045, e1046, g1047, a1051, b1052, c1053, q1054, d1055, e1056, c1058]; try simp) (by simp only [go_sem, seval, c543, c546, c549, k550, a552, b553, c554, q555, d556, e557, q558, q559, q560, c602, k606, a608, b609, c610, q611, d612, e613, q614, q615, q616, c930, a932, b933, c934, a944, b945, c946, q947, d948, e949, c951, c960, g1005, g1008, a1012, b1013, c1014, q1015, d1016, e1017, a1019, b1020, c1021, g1022, g1025, g1028, g1031, g1034, g1037, a1041, b1042, c1043, q1044, d1045, e1046, g1047, a1051, b1052, c1053, q1054, d1055, e1056, c1058]; try simp) (by simp only [go_sem, seval, c543, c546, c549, k550, a552, b553, c554, q555, d556, e557, q558, q559, q560, c602, k606, a608, b609, c610, q611, d612, e613, q614, q615, q616, c930, a932, b933, c934, a944, b945, c946, q947, d948, e949, c951, c960, g1005, g1008, a1012, b1013, c1014, q1015, d1016, e1017, a1019, b1020, c1021, g1022, g1025, g1028, g1031, g1034, g1037, a1041, b1042, c1043, q1044, d1045, e1046, g1047, a1051, b1052, c1053, q1054, d1055, e1056, c1058]; try simp) (by simp only [go_sem, seval, c543, c546, c549, k550, a552, b553, c554, q555, d556, e557, q558, q559, q560, c602, k606, a608, b609, c610, q611, d612, e613, q614, q615, q616, c930, a932, b933, c934, a944, b945, c946, q947, d948, e949, c951, c960, g1005, g1008, a1012, b1013, c1014, q1015, d1016, e1017, a1019, b1020, c1021, g1022, g1025, g1028, g1031, g1034, g1037, a1041, b1042, c1043, q1044, d1045, e1046, g1047, a1051, b1052, c1053, q1054, d1055, e1056, c1058]; try simp) ?_
    obtain ⟨v159, r1063, a1064, b1065, c1066, q1067, d1068, e1069, hx⟩ := rdA_elim hx
    simp only [go_sem, seval, c543, c546, c549, k550, a552, b553, c554, q555, d556, e557, q558, q559, q560, c602, k606, a608, b609, c610, q611, d612, e613, q614, q615, q616, c930, a932, b933, c934, a944, b945, c946, q947, d948, e949, c951, c960, g1005, g1008, a1012, b1013, c1014, q1015, d1016, e1017, a1019, b1020, c1021, g1022, g1025, g1028, g1031, g1034, g1037, a1041, b1042, c1043, q1044, d1045, e1046, g1047, a1051, b1052, c1053, q1054, d1055, e1056, c1058, a1064, b1065, c1066, q1067, d1068, e1069]
    repeat refine And.intro (by first | omega | (simp; done) | (simp; omega)) ?_
    refine hK _ _ (by kernel_rfl) (by simp [c543, c546, c549, k550, a552, b553, c554, q555, d556, e557, q558, q559, q560, c602, k606, a608, b609, c610, q611, d612, e613, q614, q615, q616, c930, a932, b933, c934, a944, b945, c946, q947, d948, e949, c951, c960, g1005, g1008, a1012, b1013, c1014, q1015, d1016, e1017, a1019, b1020, c1021, g1022, g1025, g1028, g1031, g1034, g1037, a1041, b1042, c1043, q1044, d1045, e1046, g1047, a1051, b1052, c1053, q1054, d1055, e1056, c1058, a1064, b1065, c1066, q1067, d1068, e1069]) ?_
    clear hK K
    refine Walk.weaken ⟨[(1, .d (.sl (List.map Node.D v3))), (2, .box 100002 0), (6, .arr 100022 0 v119.length), (8, .arr 100042 0 v118.length), (9, .d (.int .i64 v117)), (10, .box 100010 0)], [(100002, some (.box [.d (.sl (List.map iD v1)), .d (.sl (List.map Row.D v2))])), (100010, some (.box [.d (.int .i64 v142.Kind), .d (.int .i64 v142.Var), .d (.int .i64 v142.Zero), .d (.int .i64 v142.One), .d (.int .i64 v142.Row), .d (.int .i64 v142.Num), .d (.int .i64 v142.Den)])), (100022, some (.box ((List.map (sA iD) v119).set (v142.Zero).toNat (.arr 101013 0 v158.length)))), (100042, some (.box (List.map bA v118))), (101013, some (.arr 3 1 (List.map iD v158)))]⟩ (by simp [c543, c546, c549, k550, a552, b553, c554, q555, d556, e557, q558, q559, q560, c602, k606, a608, b609, c610, q611, d612, e613, q614, q615, q616, c930, a932, b933, c934, a944, b945, c946, q947, d948, e949, c951, c960, g1005, g1008, a1012, b1013, c1014, q1015, d1016, e1017, a1019, b1020, c1021, g1022, g1025, g1028, g1031, g1034, g1037, a1041, b1042, c1043, q1044, d1045, e1046, g1047, a1051, b1052, c1053, q1054, d1055, e1056, c1058, a1064, b1065, c1066, q1067, d1068, e1069] <;> omega) (by simp [c543, c546, c549, k550, a552, b553, c554, q555, d556, e557, q558, q559, q560, c602, k606, a608, b609, c610, q611, d612, e613, q614, q615, q616, c930, a932, b933, c934, a944, b945, c946, q947, d948, e949, c951, c960, g1005, g1008, a1012, b1013, c1014, q1015, d1016, e1017, a1019, b1020, c1021, g1022, g1025, g1028, g1031, g1034, g1037, a1041, b1042, c1043, q1044, d1045, e1046, g1047, a1051, b1052, c1053, q1054, d1055, e1056, c1058, a1064, b1065, c1066, q1067, d1068, e1069] <;> omega) ?_
    refine Walk.seq ?_
    refine Walk.weaken ⟨[(1, .d (.sl (List.map Node.D v3))), (2, .box 100002 0), (6, .arr 100022 0 v119.length), (8, .arr 100042 0 v118.length), (9, .d (.int .i64 v117)), (10, .box 100010 0)], [(100002, some (.box [.d (.sl (List.map iD v1)), .d (.sl (List.map Row.D v2))])), (100010, some (.box [.d (.int .i64 v142.Kind), .d (.int .i64 v142.Var), .d (.int .i64 v142.Zero), .d (.int .i64 v142.One), .d (.int .i64 v142.Row), .d (.int .i64 v142.Num), .d (.int .i64 v142.Den)])), (100022, some (.box ((List.map (sA iD) v119).set (v142.Zero).toNat (.arr 101013 0 v158.length)))), (100042, some (.box (List.map bA v118))), (101013, some (.arr 3 1 (List.map iD v158)))]⟩ (by simp [c543, c546, c549, k550, a552, b553, c554, q555, d556, e557, q558, q559, q560, c602, k606, a608, b609, c610, q611, d612, e613, q614, q615, q616, c930, a932, b933, c934, a944, b945, c946, q947, d948, e949, c951, c960, g1005, g1008, a1012, b1013, c1014, q1015, d1016, e1017, a1019, b1020, c1021, g1022, g1025, g1028, g1031, g1034, g1037, a1041, b1042, c1043, q1044, d1045, e1046, g1047, a1051, b1052, c1053, q1054, d1055, e1056, c1058, a1064, b1065, c1066, q1067, d1068, e1069] <;> omega) (by simp [c543, c546, c549, k550, a552, b553, c554, q555, d556, e557, q558, q559, q560, c602, k606, a608, b609, c610, q611, d612, e613, q614, q615, q616, c930, a932, b933, c934, a944, b945, c946, q947, d948, e949, c951, c960, g1005, g1008, a1012, b1013, c1014, q1015, d1016, e1017, a1019, b1020, c1021, g1022, g1025, g1028, g1031, g1034, g1037, a1041, b1042, c1043, q1044, d1045, e1046, g1047, a1051, b1052, c1053, q1054, d1055, e1056, c1058, a1064, b1065, c1066, q1067, d1068, e1069] <;> omega) ?_
    refine Walk.freeze 101013 3 1 (List.map iD v158) [(1, .d (.sl (List.map Node.D v3))), (2, .box 100002 0), (6, .arr 100022 0 (((v119.set (v142.Zero).toNat v158)).length)), (8, .arr 100042 0 v118.length), (9, .d (.int .i64 v117)), (10, .box 100010 0)] [(100002, some (.box [.d (.sl (List.map iD v1)), .d (.sl (List.map Row.D v2))])), (100010, some (.box [.d (.int .i64 v142.Kind), .d (.int .i64 v142.Var), .d (.int .i64 v142.Zero), .d (.int .i64 v142.One), .d (.int .i64 v142.Row), .d (.int .i64 v142.Num), .d (.int .i64 v142.Den)])), (100022, some (.box (List.map (sA iD) ((v119.set (v142.Zero).toNat v158))))), (100042, some (.box (List.map bA v118)))] (by simp) (by simp) (by simp) ?_
    refine Walk.drawn' rfl mixed fun K hK => ?_
    obtain ⟨v160, r1070, a1071, b1072, c1073, q1074, d1075, e1076, hx⟩ := rdA_elim hx
    have q1077 := q1074
    try simp only [List.length_replicate, List.length_set] at q1077
    have q1078 := b1072
    try simp only [List.length_replicate, List.length_set] at q1078
    obtain ⟨v161, h1079, hx⟩ := bind_elim hx
    have w1080 := ((ref09_child_ok v160 v142.Var 1 _ h1079).swap 2000 101014)
    simp only [renE, renL, AV.ren, AV.rens, AObj.ren, swp, Option.map_some, reduceIte, Nat.reduceEqDiff] at w1080
    simp only [go_sem, seval, c543, c546, c549, k550, a552, b553, c554, q555, d556, e557, q558, q559, q560, c602, k606, a608, b609, c610, q611, d612, e613, q614, q615, q616, c930, a932, b933, c934, a944, b945, c946, q947, d948, e949, c951, c960, g1005, g1008, a1012, b1013, c1014, q1015, d1016, e1017, a1019, b1020, c1021, g1022, g1025, g1028, g1031, g1034, g1037, a1041, b1042, c1043, q1044, d1045, e1046, g1047, a1051, b1052, c1053, q1054, d1055, e1056, c1058, a1064, b1065, c1066, q1067, d1068, e1069, a1071, b1072, c1073, q1074, d1075, e1076, q1077, q1078]
    repeat refine And.intro (by first | omega | (simp; done) | (simp; omega)) ?_
    refine VCl.pure rfl (by simp only [go_sem, seval, c543, c546, c549, k550, a552, b553, c554, q555, d556, e557, q558, q559, q560, c602, k606, a608, b609, c610, q611, d612, e613, q614, q615, q616, c930, a932, b933, c934, a944, b945, c946, q947, d948, e949, c951, c960, g1005, g1008, a1012, b1013, c1014, q1015, d1016, e1017, a1019, b1020, c1021, g1022, g1025, g1028, g1031, g1034, g1037, a1041, b1042, c1043, q1044, d1045, e1046, g1047, a1051, b1052, c1053, q1054, d1055, e1056, c1058, a1064, b1065, c1066, q1067, d1068, e1069, a1071, b1072, c1073, q1074, d1075, e1076, q1077, q1078]; try simp) (w1080) (by simp only [go_sem, seval, c543, c546, c549, k550, a552, b553, c554, q555, d556, e557, q558, q559, q560, c602, k606, a608, b609, c610, q611, d612, e613, q614, q615, q616, c930, a932, b933, c934, a944, b945, c946, q947, d948, e949, c951, c960, g1005, g1008, a1012, b1013, c1014, q1015, d1016, e1017, a1019, b1020, c1021, g1022, g1025, g1028, g1031, g1034, g1037, a1041, b1042, c1043, q1044, d1045, e1046, g1047, a1051, b1052, c1053, q1054, d1055, e1056, c1058, a1064, b1065, c1066, q1067, d1068, e1069, a1071, b1072, c1073, q1074, d1075, e1076, q1077, q1078]; try simp) (by simp only [go_sem, seval, c543, c546, c549, k550, a552, b553, c554, q555, d556, e557, q558, q559, q560, c602, k606, a608, b609, c610, q611, d612, e613, q614, q615, q616, c930, a932, b933, c934, a944, b945, c946, q947, d948, e949, c951, c960, g1005, g1008, a1012, b1013, c1014, q1015, d1016, e1017, a1019, b1020, c1021, g1022, g1025, g1028, g1031, g1034, g1037, a1041, b1042, c1043, q1044, d1045, e1046, g1047, a1051, b1052, c1053, q1054, d1055, e1056, c1058, a1064, b1065, c1066, q1067, d1068, e1069, a1071, b1072, c1073, q1074, d1075, e1076, q1077, q1078]; try simp) (by simp only [go_sem, seval, c543, c546, c549, k550, a552, b553, c554, q555, d556, e557, q558, q559, q560, c602, k606, a608, b609, c610, q611, d612, e613, q614, q615, q616, c930, a932, b933, c934, a944, b945, c946, q947, d948, e949, c951, c960, g1005, g1008, a1012, b1013, c1014, q1015, d1016, e1017, a1019, b1020, c1021, g1022, g1025, g1028, g1031, g1034, g1037, a1041, b1042, c1043, q1044, d1045, e1046, g1047, a1051, b1052, c1053, q1054, d1055, e1056, c1058, a1064, b1065, c1066, q1067, d1068, e1069, a1071, b1072, c1073, q1074, d1075, e1076, q1077, q1078]; try simp) (by simp only [go_sem, seval, c543, c546, c549, k550, a552, b553, c554, q555, d556, e557, q558, q559, q560, c602, k606, a608, b609, c610, q611, d612, e613, q614, q615, q616, c930, a932, b933, c934, a944, b945, c946, q947, d948, e949, c951, c960, g1005, g1008, a1012, b1013, c1014, q1015, d1016, e1017, a1019, b1020, c1021, g1022, g1025, g1028, g1031, g1034, g1037, a1041, b1042, c1043, q1044, d1045, e1046, g1047, a1051, b1052, c1053, q1054, d1055, e1056, c1058, a1064, b1065, c1066, q1067, d1068, e1069, a1071, b1072, c1073, q1074, d1075, e1076, q1077, q1078]; try simp) (by simp only [go_sem, seval, c543, c546, c549, k550, a552, b553, c554, q555, d556, e557, q558, q559, q560, c602, k606, a608, b609, c610, q611, d612, e613, q614, q615, q616, c930, a932, b933, c934, a944, b945, c946, q947, d948, e949, c951, c960, g1005, g1008, a1012, b1013, c1014, q1015, d1016, e1017, a1019, b1020, c1021, g1022, g1025, g1028, g1031, g1034, g1037, a1041, b1042, c1043, q1044, d1045, e1046, g1047, a1051, b1052, c1053, q1054, d1055, e1056, c1058, a1064, b1065, c1066, q1067, d1068, e1069, a1071, b1072, c1073, q1074, d1075, e1076, q1077, q1078]; try simp) (by simp only [go_sem, seval, c543, c546, c549, k550, a552, b553, c554, q555, d556, e557, q558, q559, q560, c602, k606, a608, b609, c610, q611, d612, e613, q614, q615, q616, c930, a932, b933, c934, a944, b945, c946, q947, d948, e949, c951, c960, g1005, g1008, a1012, b1013, c1014, q1015, d1016, e1017, a1019, b1020, c1021, g1022, g1025, g1028, g1031, g1034, g1037, a1041, b1042, c1043, q1044, d1045, e1046, g1047, a1051, b1052, c1053, q1054, d1055, e1056, c1058, a1064, b1065, c1066, q1067, d1068, e1069, a1071, b1072, c1073, q1074, d1075, e1076, q1077, q1078]; try simp) ?_
    obtain ⟨v162, r1081, a1082, b1083, c1084, q1085, d1086, e1087, hx⟩ := rdA_elim hx
    have q1088 := q1085
    try simp only [List.length_replicate, List.length_set] at q1088
    have q1089 := b1083
    try simp only [List.length_replicate, List.length_set] at q1089
    simp only [go_sem, seval, c543, c546, c549, k550, a552, b553, c554, q555, d556, e557, q558, q559, q560, c602, k606, a608, b609, c610, q611, d612, e613, q614, q615, q616, c930, a932, b933, c934, a944, b945, c946, q947, d948, e949, c951, c960, g1005, g1008, a1012, b1013, c1014, q1015, d1016, e1017, a1019, b1020, c1021, g1022, g1025, g1028, g1031, g1034, g1037, a1041, b1042, c1043, q1044, d1045, e1046, g1047, a1051, b1052, c1053, q1054, d1055, e1056, c1058, a1064, b1065, c1066, q1067, d1068, e1069, a1071, b1072, c1073, q1074, d1075, e1076, q1077, q1078, a1082, b1083, c1084, q1085, d1086, e1087, q1088, q1089]
    repeat refine And.intro (by first | omega | (simp; done) | (simp; omega)) ?_
    refine hK _ _ (by kernel_rfl) (by simp [c543, c546, c549, k550, a552, b553, c554, q555, d556, e557, q558, q559, q560, c602, k606, a608, b609, c610, q611, d612, e613, q614, q615, q616, c930, a932, b933, c934, a944, b945, c946, q947, d948, e949, c951, c960, g1005, g1008, a1012, b1013, c1014, q1015, d1016, e1017, a1019, b1020, c1021, g1022, g1025, g1028, g1031, g1034, g1037, a1041, b1042, c1043, q1044, d1045, e1046, g1047, a1051, b1052, c1053, q1054, d1055, e1056, c1058, a1064, b1065, c1066, q1067, d1068, e1069, a1071, b1072, c1073, q1074, d1075, e1076, q1077, q1078, a1082, b1083, c1084, q1085, d1086, e1087, q1088, q1089]) ?_
    clear hK K
    refine Walk.weaken ⟨[(1, .d (.sl (List.map Node.D v3))), (2, .box 100002 0), (6, .arr 100022 0 (((v119.set (v142.Zero).toNat v158)).length)), (8, .arr 100042 0 v118.length), (9, .d (.int .i64 v117)), (10, .box 100010 0)], [(100002, some (.box [.d (.sl (List.map iD v1)), .d (.sl (List.map Row.D v2))])), (100010, some (.box [.d (.int .i64 v142.Kind), .d (.int .i64 v142.Var), .d (.int .i64 v142.Zero), .d (.int .i64 v142.One), .d (.int .i64 v142.Row), .d (.int .i64 v142.Num), .d (.int .i64 v142.Den)])), (100022, some (.box ((List.map (sA iD) ((v119.set (v142.Zero).toNat v158))).set (v142.One).toNat (.arr 101014 0 v161.length)))), (100042, some (.box (List.map bA v118))), (101014, some (.arr 3 1 (List.map iD v161)))]⟩ (by simp [c543, c546, c549, k550, a552, b553, c554, q555, d556, e557, q558, q559, q560, c602, k606, a608, b609, c610, q611, d612, e613, q614, q615, q616, c930, a932, b933, c934, a944, b945, c946, q947, d948, e949, c951, c960, g1005, g1008, a1012, b1013, c1014, q1015, d1016, e1017, a1019, b1020, c1021, g1022, g1025, g1028, g1031, g1034, g1037, a1041, b1042, c1043, q1044, d1045, e1046, g1047, a1051, b1052, c1053, q1054, d1055, e1056, c1058, a1064, b1065, c1066, q1067, d1068, e1069, a1071, b1072, c1073, q1074, d1075, e1076, q1077, q1078, a1082, b1083, c1084, q1085, d1086, e1087, q1088, q1089] <;> omega) (by simp [c543, c546, c549, k550, a552, b553, c554, q555, d556, e557, q558, q559, q560, c602, k606, a608, b609, c610, q611, d612, e613, q614, q615, q616, c930, a932, b933, c934, a944, b945, c946, q947, d948, e949, c951, c960, g1005, g1008, a1012, b1013, c1014, q1015, d1016, e1017, a1019, b1020, c1021, g1022, g1025, g1028, g1031, g1034, g1037, a1041, b1042, c1043, q1044, d1045, e1046, g1047, a1051, b1052, c1053, q1054, d1055, e1056, c1058, a1064, b1065, c1066, q1067, d1068, e1069, a1071, b1072, c1073, q1074, d1075, e1076, q1077, q1078, a1082, b1083, c1084, q1085, d1086, e1087, q1088, q1089] <;> omega) ?_
    refine Walk.seq (Walk.region' rfl fun K hK => ?_)
    simp only [go_sem, seval, c543, c546, c549, k550, a552, b553, c554, q555, d556, e557, q558, q559, q560, c602, k606, a608, b609, c610, q611, d612, e613, q614, q615, q616, c930, a932, b933, c934, a944, b945, c946, q947, d948, e949, c951, c960, g1005, g1008, a1012, b1013, c1014, q1015, d1016, e1017, a1019, b1020, c1021, g1022, g1025, g1028, g1031, g1034, g1037, a1041, b1042, c1043, q1044, d1045, e1046, g1047, a1051, b1052, c1053, q1054, d1055, e1056, c1058, a1064, b1065, c1066, q1067, d1068, e1069, a1071, b1072, c1073, q1074, d1075, e1076, q1077, q1078, a1082, b1083, c1084, q1085, d1086, e1087, q1088, q1089]
    repeat refine And.intro (by first | omega | (simp; done) | (simp; omega)) ?_
    refine hK _ ?_
    clear hK K
    refine Walk.weaken ⟨[(1, .d (.sl (List.map Node.D v3))), (2, .box 100002 0), (6, .arr 100022 0 (((v119.set (v142.Zero).toNat v158)).length)), (8, .arr 100042 0 (((v118.set (v142.Zero).toNat true)).length)), (9, .d (.int .i64 v117)), (10, .box 100010 0)], [(100002, some (.box [.d (.sl (List.map iD v1)), .d (.sl (List.map Row.D v2))])), (100010, some (.box [.d (.int .i64 v142.Kind), .d (.int .i64 v142.Var), .d (.int .i64 v142.Zero), .d (.int .i64 v142.One), .d (.int .i64 v142.Row), .d (.int .i64 v142.Num), .d (.int .i64 v142.Den)])), (100022, some (.box ((List.map (sA iD) ((v119.set (v142.Zero).toNat v158))).set (v142.One).toNat (.arr 101014 0 v161.length)))), (100042, some (.box (List.map bA ((v118.set (v142.Zero).toNat true))))), (101014, some (.arr 3 1 (List.map iD v161)))]⟩ (by simp [c543, c546, c549, k550, a552, b553, c554, q555, d556, e557, q558, q559, q560, c602, k606, a608, b609, c610, q611, d612, e613, q614, q615, q616, c930, a932, b933, c934, a944, b945, c946, q947, d948, e949, c951, c960, g1005, g1008, a1012, b1013, c1014, q1015, d1016, e1017, a1019, b1020, c1021, g1022, g1025, g1028, g1031, g1034, g1037, a1041, b1042, c1043, q1044, d1045, e1046, g1047, a1051, b1052, c1053, q1054, d1055, e1056, c1058, a1064, b1065, c1066, q1067, d1068, e1069, a1071, b1072, c1073, q1074, d1075, e1076, q1077, q1078, a1082, b1083, c1084, q1085, d1086, e1087, q1088, q1089] <;> omega) (by simp [c543, c546, c549, k550, a552, b553, c554, q555, d556, e557, q558, q559, q560, c602, k606, a608, b609, c610, q611, d612, e613, q614, q615, q616, c930, a932, b933, c934, a944, b945, c946, q947, d948, e949, c951, c960, g1005, g1008, a1012, b1013, c1014, q1015, d1016, e1017, a1019, b1020, c1021, g1022, g1025, g1028, g1031, g1034, g1037, a1041, b1042, c1043, q1044, d1045, e1046, g1047, a1051, b1052, c1053, q1054, d1055, e1056, c1058, a1064, b1065, c1066, q1067, d1068, e1069, a1071, b1072, c1073, q1074, d1075, e1076, q1077, q1078, a1082, b1083, c1084, q1085, d1086, e1087, q1088, q1089] <;> omega) ?_
    refine Walk.region' rfl fun K hK => ?_
    obtain ⟨v163, r1090, a1091, b1092, c1093, q1094, d1095, e1096, hx⟩ := rdA_elim hx
    have q1097 := q1094
    try simp only [List.length_replicate, List.length_set] at q1097
    have q1098 := b1092
    try simp only [List.length_replicate, List.length_set] at q1098
    simp only [go_sem, seval, c543, c546, c549, k550, a552, b553, c554, q555, d556, e557, q558, q559, q560, c602, k606, a608, b609, c610, q611, d612, e613, q614, q615, q616, c930, a932, b933, c934, a944, b945, c946, q947, d948, e949, c951, c960, g1005, g1008, a1012, b1013, c1014, q1015, d1016, e1017, a1019, b1020, c1021, g1022, g1025, g1028, g1031, g1034, g1037, a1041, b1042, c1043, q1044, d1045, e1046, g1047, a1051, b1052, c1053, q1054, d1055, e1056, c1058, a1064, b1065, c1066, q1067, d1068, e1069, a1071, b1072, c1073, q1074, d1075, e1076, q1077, q1078, a1082, b1083, c1084, q1085, d1086, e1087, q1088, q1089, a1091, b1092, c1093, q1094, d1095, e1096, q1097, q1098]
    repeat refine And.intro (by first | omega | (simp; done) | (simp; omega)) ?_
    refine hK _ ?_
    clear hK K
    refine Walk.weaken ⟨[(1, .d (.sl (List.map Node.D v3))), (2, .box 100002 0), (6, .arr 100022 0 (((v119.set (v142.Zero).toNat v158)).length)), (8, .arr 100042 0 (((((v118.set (v142.Zero).toNat true)).set (v142.One).toNat true)).length)), (9, .d (.int .i64 v117))], [(100002, some (.box [.d (.sl (List.map iD v1)), .d (.sl (List.map Row.D v2))])), (100022, some (.box ((List.map (sA iD) ((v119.set (v142.Zero).toNat v158))).set (v142.One).toNat (.arr 101014 0 v161.length)))), (100042, some (.box (List.map bA ((((v118.set (v142.Zero).toNat true)).set (v142.One).toNat true))))), (101014, some (.arr 3 1 (List.map iD v161)))]⟩ (by simp [c543, c546, c549, k550, a552, b553, c554, q555, d556, e557, q558, q559, q560, c602, k606, a608, b609, c610, q611, d612, e613, q614, q615, q616, c930, a932, b933, c934, a944, b945, c946, q947, d948, e949, c951, c960, g1005, g1008, a1012, b1013, c1014, q1015, d1016, e1017, a1019, b1020, c1021, g1022, g1025, g1028, g1031, g1034, g1037, a1041, b1042, c1043, q1044, d1045, e1046, g1047, a1051, b1052, c1053, q1054, d1055, e1056, c1058, a1064, b1065, c1066, q1067, d1068, e1069, a1071, b1072, c1073, q1074, d1075, e1076, q1077, q1078, a1082, b1083, c1084, q1085, d1086, e1087, q1088, q1089, a1091, b1092, c1093, q1094, d1095, e1096, q1097, q1098] <;> omega) (by simp [c543, c546, c549, k550, a552, b553, c554, q555, d556, e557, q558, q559, q560, c602, k606, a608, b609, c610, q611, d612, e613, q614, q615, q616, c930, a932, b933, c934, a944, b945, c946, q947, d948, e949, c951, c960, g1005, g1008, a1012, b1013, c1014, q1015, d1016, e1017, a1019, b1020, c1021, g1022, g1025, g1028, g1031, g1034, g1037, a1041, b1042, c1043, q1044, d1045, e1046, g1047, a1051, b1052, c1053, q1054, d1055, e1056, c1058, a1064, b1065, c1066, q1067, d1068, e1069, a1071, b1072, c1073, q1074, d1075, e1076, q1077, q1078, a1082, b1083, c1084, q1085, d1086, e1087, q1088, q1089, a1091, b1092, c1093, q1094, d1095, e1096, q1097, q1098] <;> omega) ?_
    refine Walk.inBlock (Walk.region' rfl fun K hK => ?_)
    simp only [go_sem, seval, c543, c546, c549, k550, a552, b553, c554, q555, d556, e557, q558, q559, q560, c602, k606, a608, b609, c610, q611, d612, e613, q614, q615, q616, c930, a932, b933, c934, a944, b945, c946, q947, d948, e949, c951, c960, g1005, g1008, a1012, b1013, c1014, q1015, d1016, e1017, a1019, b1020, c1021, g1022, g1025, g1028, g1031, g1034, g1037, a1041, b1042, c1043, q1044, d1045, e1046, g1047, a1051, b1052, c1053, q1054, d1055, e1056, c1058, a1064, b1065, c1066, q1067, d1068, e1069, a1071, b1072, c1073, q1074, d1075, e1076, q1077, q1078, a1082, b1083, c1084, q1085, d1086, e1087, q1088, q1089, a1091, b1092, c1093, q1094, d1095, e1096, q1097, q1098]
    refine hK _ ?_
    clear hK K
    refine Walk.weaken ⟨[(1, .d (.sl (List.map Node.D v3))), (2, .box 100002 0), (6, .arr 100022 0 (((v119.set (v142.Zero).toNat v158)).length)), (8, .arr 100042 0 (((((v118.set (v142.Zero).toNat true)).set (v142.One).toNat true)).length)), (9, .d (.int .i64 (IntKind.i64.wrap (v117 + 1))))], [(100002, some (.box [.d (.sl (List.map iD v1)), .d (.sl (List.map Row.D v2))])), (100022, some (.box ((List.map (sA iD) ((v119.set (v142.Zero).toNat v158))).set (v142.One).toNat (.arr 101014 0 v161.length)))), (100042, some (.box (List.map bA ((((v118.set (v142.Zero).toNat true)).set (v142.One).toNat true))))), (101014, some (.arr 3 1 (List.map iD v161)))]⟩ (by simp [c543, c546, c549, k550, a552, b553, c554, q555, d556, e557, q558, q559, q560, c602, k606, a608, b609, c610, q611, d612, e613, q614, q615, q616, c930, a932, b933, c934, a944, b945, c946, q947, d948, e949, c951, c960, g1005, g1008, a1012, b1013, c1014, q1015, d1016, e1017, a1019, b1020, c1021, g1022, g1025, g1028, g1031, g1034, g1037, a1041, b1042, c1043, q1044, d1045, e1046, g1047, a1051, b1052, c1053, q1054, d1055, e1056, c1058, a1064, b1065, c1066, q1067, d1068, e1069, a1071, b1072, c1073, q1074, d1075, e1076, q1077, q1078, a1082, b1083, c1084, q1085, d1086, e1087, q1088, q1089, a1091, b1092, c1093, q1094, d1095, e1096, q1097, q1098] <;> omega) (by simp [c543, c546, c549, k550, a552, b553, c554, q555, d556, e557, q558, q559, q560, c602, k606, a608, b609, c610, q611, d612, e613, q614, q615, q616, c930, a932, b933, c934, a944, b945, c946, q947, d948, e949, c951, c960, g1005, g1008, a1012, b1013, c1014, q1015, d1016, e1017, a1019, b1020, c1021, g1022, g1025, g1028, g1031, g1034, g1037, a1041, b1042, c1043, q1044, d1045, e1046, g1047, a1051, b1052, c1053, q1054, d1055, e1056, c1058, a1064, b1065, c1066, q1067, d1068, e1069, a1071, b1072, c1073, q1074, d1075, e1076, q1077, q1078, a1082, b1083, c1084, q1085, d1086, e1087, q1088, q1089, a1091, b1092, c1093, q1094, d1095, e1096, q1097, q1098] <;> omega) ?_
    refine Walk.freeze 101014 3 1 (List.map iD v161) [(1, .d (.sl (List.map Node.D v3))), (2, .box 100002 0), (6, .arr 100022 0 (((((v119.set (v142.Zero).toNat v158)).set (v142.One).toNat v161)).length)), (8, .arr 100042 0 (((((v118.set (v142.Zero).toNat true)).set (v142.One).toNat true)).length)), (9, .d (.int .i64 (IntKind.i64.wrap (v117 + 1))))] [(100002, some (.box [.d (.sl (List.map iD v1)), .d (.sl (List.map Row.D v2))])), (100022, some (.box (List.map (sA iD) ((((v119.set (v142.Zero).toNat v158)).set (v142.One).toNat v161))))), (100042, some (.box (List.map bA ((((v118.set (v142.Zero).toNat true)).set (v142.One).toNat true)))))] (by simp) (by simp) (by simp) ?_
    exact Walk.weaken _ (by simp [c543, c546, c549, k550, a552, b553, c554, q555, d556, e557, q558, q559, q560, c602, k606, a608, b609, c610, q611, d612, e613, q614, q615, q616, c930, a932, b933, c934, a944, b945, c946, q947, d948, e949, c951, c960, g1005, g1008, a1012, b1013, c1014, q1015, d1016, e1017, a1019, b1020, c1021, g1022, g1025, g1028, g1031, g1034, g1037, a1041, b1042, c1043, q1044, d1045, e1046, g1047, a1051, b1052, c1053, q1054, d1055, e1056, c1058, a1064, b1065, c1066, q1067, d1068, e1069, a1071, b1072, c1073, q1074, d1075, e1076, q1077, q1078, a1082, b1083, c1084, q1085, d1086, e1087, q1088, q1089, a1091, b1092, c1093, q1094, d1095, e1096, q1097, q1098] <;> omega) (by simp [c543, c546, c549, k550, a552, b553, c554, q555, d556, e557, q558, q559, q560, c602, k606, a608, b609, c610, q611, d612, e613, q614, q615, q616, c930, a932, b933, c934, a944, b945, c946, q947, d948, e949, c951, c960, g1005, g1008, a1012, b1013, c1014, q1015, d1016, e1017, a1019, b1020, c1021, g1022, g1025, g1028, g1031, g1034, g1037, a1041, b1042, c1043, q1044, d1045, e1046, g1047, a1051, b1052, c1053, q1054, d1055, e1056, c1058, a1064, b1065, c1066, q1067, d1068, e1069, a1071, b1072, c1073, q1074, d1075, e1076, q1077, q1078, a1082, b1083, c1084, q1085, d1086, e1087, q1088, q1089, a1091, b1092, c1093, q1094, d1095, e1096, q1097, q1098] <;> omega) (ih926 _ (cont_elim hx))
  refine Walk.exit rfl ?_
  obtain ⟨z1099, e1100, hx⟩ := exit_elim hx
  rw [hr927 z1099 e1100] at hx
  refine Walk.seq (Walk.region' rfl fun K hK => ?_)
  simp only [go_sem, seval, c543, c546, c549, k550, a552, b553, c554, q555, d556, e557, q558, q559, q560, c602, k606, a608, b609, c610, q611, d612, e613, q614, q615, q616, c930]
  refine hK _ ?_
  clear hK K
  refine Walk.weaken ⟨[(4, .arr 100022 0 v119.length), (5, .d (.int .i64 0))], [(100022, some (.box (List.map (sA iD) v119)))]⟩ (by simp [c543, c546, c549, k550, a552, b553, c554, q555, d556, e557, q558, q559, q560, c602, k606, a608, b609, c610, q611, d612, e613, q614, q615, q616, c930] <;> omega) (by simp [c543, c546, c549, k550, a552, b553, c554, q555, d556, e557, q558, q559, q560, c602, k606, a608, b609, c610, q611, d612, e613, q614, q615, q616, c930] <;> omega) ?_
  refine Walk.freezeBox 100022 (List.map (slD iD) v119) [(4, .d (.sl (List.map (lD iD) v119))), (5, .d (.int .i64 0))] [] (by simp [map_iA, map_bA, map_sA, slD]) (by simp [one_iD, one_bD, one_slD, slD]) (by simp) ?_
  obtain rfl := Option.some.inj hx
  exact Walk.ret ⟨by simp [c543, c546, c549, k550, a552, b553, c554, q555, d556, e557, q558, q559, q560, c602, k606, a608, b609, c610, q611, d612, e613, q614, q615, q616, c930], by simp [c543, c546, c549, k550, a552, b553, c554, q555, d556, e557, q558, q559, q560, c602, k606, a608, b609, c610, q611, d612, e613, q614, q615, q616, c930]⟩
end Go.AX

