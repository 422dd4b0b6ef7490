import Derived.Test.YtmggphnhfegffaaE2
set_option linter.unusedVariables false
set_option linter.unusedSimpArgs false
set_option maxRecDepth 20000
set_option maxHeartbeats 4000000
namespace Go.AX
open Go.Proofs
attribute [local simp] subE subH eget hget upE upV upH upO_refl upO_box upVs freshE freshH freshO AV.ids AV.idsL ids_box ids_arr frE frV_refl frV_arr frH frO_refl frO_box frVs newOk evalA AV.viewXs AV.viewX AV.viewXP AV.viewXPs AV.viewPs AV.viewP AV.flat AV.flatL D.flat arrsOnly flatObjs newNames subOf closedIn allSome dstOk newOrOld avD avDp zv_i64 zv_u8 zv_bool zv_nils zv_nilp retAV aLoad cut TI.isAgg nlE nlH nlO_refl nlO_box nlVs nlV_refl nlV_nil iD uD bD tD lD List.map_set ti2 ti3 ti4 ti5 ti6 ti7 ti8 ti9 ti10 ti11 ti12 ti13 ti14 ti15 ti16 ti17 ti18 ti19 ti21 ti22 ti23 ti25 ti26 ti27 ti31 ti32 ti41 ti51 ti52 ti53 ti54 ti56 ti58 ti60 ti61 ti62 ti67 ti68 ti71 ti72 ti79 ti80 ti81 ti82 ti83 ti84 ti85 ti89 ti93 ti94 ti95 ti110 ti124 ti125 ti126 ti127 ti128 ti129 ti130 ti131 ti133 ti134 ti135 ti136 ti137 Row.D TRange.D Ref.D Form.D
attribute [local go_sem] V1_none V1_some V_nil V_move V_assign V_pick V_bin V_un V_extract V_makeFunc V_convert V_nilCheck V_fieldAddr V_field V_load V_store V_indexAddr V_index V_slice V_slice0 V_alloc V_box V_build V_buildSlice V_makeSlice V_len V_min V_max V_append V_call V_guard VGs_some VG_tt VG_ff VG_tf VG_ft VG_u gslot ok fail po so aNew dstOk freshU addLog_none' addLog_some' St.step putL evalA eget hget argE freshE freshO freshH AV.ids AV.idsL AV.ok1 AV.cells ids_box ids_arr liveBox liveArr isArr aPick aBin aUn aExtract aMakeFunc aConvert aNilCheck aFieldAddr aField cut aLen aIndexAddr aMin aMax aIndex bnd isInt aSlice aSlice0 aLoad aAlloc aBox aStore splice aMake updIds newIds zv_i64 zv_u8 zv_bool zv_nils zv_nilp cond_bool cond_int TI.isAgg TK.isSl TK.el okL avDps avDp avD List.map_cons List.map_nil List.append_nil List.nil_append List.cons_append List.length_cons List.length_nil List.take_succ_cons List.take_zero List.drop_succ_cons List.drop_zero List.take_nil List.drop_nil List.headD_cons List.getD_cons_zero List.getD_cons_succ List.mem_cons List.not_mem_nil List.getElem?_cons_zero List.getElem?_cons_succ List.toList_toArray Option.getD_some Option.getD_none Option.bind_some Option.bind_none Option.map_some Option.map_none Option.getD Option.toList Nat.zero_add Nat.add_zero Nat.zero_le Nat.le_refl if_true if_false ite_self true_and and_true false_and and_false true_or or_true false_or or_false not_true_eq_false not_false_eq_true ne_eq cond_true cond_false Bool.true_eq_false Bool.false_eq_true forall_const decide_true decide_false implies_true true_implies and_self or_self Nat.succ_ne_zero Int.toNat_natCast Int.natCast_nonneg List.length_map decide_eq_true_eq AV.views AV.view AV.viewPs AV.viewP arrsOnly newNames List.length_append List.append_assoc Bool.not_true Bool.not_false AV.ok2 aBuild fillR fillP aBuildSlice dense elP aAppend esOf esOfP List.forall_mem_cons forall_eq_or_imp forall_eq zD zDp map_take' map_drop' iD uD bD tD lD iD_len uD_len bD_len tD_len lD_len LB Int.cast_ofNat_Int Int.natCast_zero Int.natCast_one head_len all_len List.head?_cons List.head?_nil Bool.not_not eq_self ti2 ti3 ti4 ti5 ti6 ti7 ti8 ti9 ti10 ti11 ti12 ti13 ti14 ti15 ti16 ti17 ti18 ti19 ti21 ti22 ti23 ti25 ti26 ti27 ti31 ti32 ti41 ti51 ti52 ti53 ti54 ti56 ti58 ti60 ti61 ti62 ti67 ti68 ti71 ti72 ti79 ti80 ti81 ti82 ti83 ti84 ti85 ti89 ti93 ti94 ti95 ti110 ti124 ti125 ti126 ti127 ti128 ti129 ti130 ti131 ti133 ti134 ti135 ti136 ti137 Row.D TRange.D Ref.D Form.D Row.D_len TRange.D_len Ref.D_len Form.D_len
noncomputable def ref08_State_l0 (v1 : Int) (v2 : List Int) (v9 : Int) : Option ((Int) ⊕ (Bool)) :=
  bif decide (v9 < v1) then ((rd v2 v9).bind fun v11 => bif decide (v11 < (-1)) then (exitO (some (false : Bool))) else (bif decide (v11 > 1) then (exitO (some (false : Bool))) else (contO (IntKind.i64.wrap (v9 + 1) : Int)))) else (exitO (some (true : Bool)))
noncomputable def ref08_State (v1 : Int) (v2 : List Int) : Option (Bool) :=
  bif decide (¬ (v2.length : Int) = v1) then (some (false : Bool)) else (iter (fun g : Int => ref08_State_l0 v1 v2 g) 0)
theorem ref08_State_ok (v1 : Int) (v2 : List Int) (r : Bool) (hx : ref08_State v1 v2 = some r) :
    ACalls Try.prog 47 [.d (.int .i64 v1), .d (.sl (List.map iD v2))] [] (.d (.bool r)) [] := by
  refine ACalls.of_sem (n := 27) 0 [4] (fn := Try.f47) Try.func47 rfl rfl (.one rfl) rfl (by simp) (by intro i; simp only [hget]; (repeat' split) <;> simp <;> omega) ?_
  unfold ref08_State at hx
  refine Walk.seq (Walk.region' rfl fun K hK => ?_)
  simp only [go_sem, seval]
  refine hK _ ?_
  clear hK K
  refine Walk.seq (Walk.seq (Walk.region' rfl fun K hK => ?_))
  simp only [go_sem, seval]
  refine hK _ ?_
  clear hK K
  refine Walk.condO rfl hx (fun c37 hx => ?_) (fun c37 hx => ?_)
  · refine Walk.seq (Walk.region' rfl fun K hK => ?_)
    simp only [go_sem, seval, c37]
    refine hK _ ?_
    clear hK K
    obtain rfl := Option.some.inj hx
    exact Walk.ret ⟨by simp [c37], by simp [c37]⟩
  · refine Walk.skip (Walk.seq (Walk.seq (Walk.region' rfl fun K hK => ?_)))
    simp only [go_sem, seval, c37]
    refine hK _ ?_
    clear hK K
    refine Walk.block (Walk.loop ?_)
    refine Walk.weaken ⟨[(0, .d (.int .i64 v1)), (1, .d (.sl (List.map iD v2))), (5, .d (.int .i64 0))], []⟩ (by simp [c37]) (by simp [c37]) ?_
    refine Walk.iter (σ := Int) (fun g => ⟨[(0, .d (.int .i64 v1)), (1, .d (.sl (List.map iD v2))), (5, .d (.int .i64 g))], []⟩) (fun g : Int => ref08_State_l0 v1 v2 g) _ (fun v9 y73 hx ih56 hr57 => ?_) 0 hx
    unfold ref08_State_l0 at hx
    try dsimp only at hx ⊢
    refine Walk.seq (Walk.seq (Walk.region' rfl fun K hK => ?_))
    simp only [go_sem, seval, c37]
    refine hK _ ?_
    clear hK K
    refine Walk.condO rfl hx (fun c60 hx => ?_) (fun c60 hx => ?_)
    · refine Walk.skip (Walk.seq (Walk.block (Walk.seq (Walk.region' rfl fun K hK => ?_))))
      obtain ⟨v11, r61, a62, b63, c64, hx⟩ := rd_elim hx
      simp only [go_sem, seval, c37, c60, a62, b63, c64]
      repeat refine And.intro (by first | omega | (simp; done) | (simp; omega)) ?_
      refine VGdO hx (fun g65 hx => ?_) (fun g65 hx => ?_)
      · simp only [go_sem, seval, c37, c60, a62, b63, c64, g65]
        refine hK _ ?_
        clear hK K
        refine Walk.condT rfl (Walk.seq (Walk.region' rfl fun K hK => ?_))
        simp only [go_sem, seval, c37, c60, a62, b63, c64, g65]
        refine hK _ ?_
        clear hK K
        obtain ⟨z66, e67, hx⟩ := exit_elim hx
        rw [hr57 z66 e67] at hx
        obtain rfl := Option.some.inj hx
        exact Walk.ret ⟨by simp [c37, c60, a62, b63, c64, g65], by simp [c37, c60, a62, b63, c64, g65]⟩
      · simp only [go_sem, seval, c37, c60, a62, b63, c64, g65]
        repeat refine And.intro (by first | omega | (simp; done) | (simp; omega)) ?_
        refine hK _ ?_
        clear hK K
        refine Walk.condO rfl hx (fun c68 hx => ?_) (fun c68 hx => ?_)
        · refine Walk.seq (Walk.region' rfl fun K hK => ?_)
          simp only [go_sem, seval, c37, c60, a62, b63, c64, g65, c68]
          refine hK _ ?_
          clear hK K
          obtain ⟨z69, e70, hx⟩ := exit_elim hx
          rw [hr57 z69 e70] at hx
          obtain rfl := Option.some.inj hx
          exact Walk.ret ⟨by simp [c37, c60, a62, b63, c64, g65, c68], by simp [c37, c60, a62, b63, c64, g65, c68]⟩
        · refine Walk.skip (Walk.inBlock (Walk.region' rfl fun K hK => ?_))
          simp only [go_sem, seval, c37, c60, a62, b63, c64, g65, c68]
          refine hK _ ?_
          clear hK K
          exact Walk.weaken _ (by simp [c37, c60, a62, b63, c64, g65, c68]) (by simp [c37, c60, a62, b63, c64, g65, c68]) (ih56 _ (cont_elim hx))
    · refine Walk.exit rfl ?_
      obtain ⟨z71, e72, hx⟩ := exit_elim hx
      rw [hr57 z71 e72] at hx
      refine Walk.seq (Walk.region' rfl fun K hK => ?_)
      simp only [go_sem, seval, c37, c60]
      refine hK _ ?_
      clear hK K
      obtain rfl := Option.some.inj hx
      exact Walk.ret ⟨by simp [c37, c60], by simp [c37, c60]⟩
noncomputable def ref08_Span_j1 (v4 : List Int) (v45 : Int) (v53 : Int) (v57 : Int) (v58 : Int) : Option ((Int × Int × Int) ⊕ (Int × Int × Bool)) :=
  (rd v4 v45).bind fun v59 => bif decide (v59 = (-1)) then (contO ((IntKind.i64.wrap (v57 + (min v53 0)), IntKind.i64.wrap (v58 + (max v53 0)), IntKind.i64.wrap (v45 + 1)) : Int × Int × Int)) else (contO ((v57, v58, IntKind.i64.wrap (v45 + 1)) : Int × Int × Int))
noncomputable def ref08_Span_l0 (v4 : List Int) (v1 : List Int) (v43 : Int) (v44 : Int) (v45 : Int) : Option ((Int × Int × Int) ⊕ (Int × Int × Bool)) :=
  bif decide (v45 < (v4.length : Int)) then ((rd v1 v45).bind fun v53 => (ref08_coef v53).bind fun v55 => bif !v55 then (exitO (some ((0, 0, false) : Int × Int × Bool))) else ((rd v4 v45).bind fun v60 => bif decide (v60 = 1) then (ref08_Span_j1 v4 v45 v53 (IntKind.i64.wrap (v43 + v53)) (IntKind.i64.wrap (v44 + v53))) else (ref08_Span_j1 v4 v45 v53 v43 v44))) else (exitO (some ((v43, v44, true) : Int × Int × Bool)))
noncomputable def ref08_Span (v1 : List Int) (v2 : Int) (v3 : Int) (v4 : List Int) : Option (Int × Int × Bool) :=
  bif decide ((v1.length : Int) > 12) then (some ((0, 0, false) : Int × Int × Bool)) else ((ref08_State (v1.length : Int) v4).bind fun v35 => bif !v35 then (some ((0, 0, false) : Int × Int × Bool)) else (iter (fun g : Int × Int × Int => ref08_Span_l0 v4 v1 g.1 g.2.1 g.2.2) (0, 0, 0)))
theorem ref08_Span_ok (v1 : List Int) (v2 : Int) (v3 : Int) (v4 : List Int) (r : Int × Int × Bool) (hx : ref08_Span v1 v2 v3 v4 = some r) :
    ACalls Try.prog 17 [.agg [.d (.sl (List.map iD v1)), .d (.int .i64 v2), .d (.int .i64 v3)], .d (.sl (List.map iD v4))] [] (.tup [.d (.int .i64 r.1), .d (.int .i64 r.2.1), .d (.bool r.2.2)]) [] := by
  refine ACalls.of_sem (n := 63) 0 [4, 5, 6] (fn := Try.f17) Try.func17 rfl rfl (.three rfl) rfl (by simp) (by intro i; simp only [hget]; (repeat' split) <;> simp <;> omega) ?_
  unfold ref08_Span at hx
  refine Walk.seq (Walk.region' rfl fun K hK => ?_)
  simp only [go_sem, seval]
  refine hK _ ?_
  clear hK K
  refine Walk.seq (Walk.seq (Walk.region' rfl fun K hK => ?_))
  simp only [go_sem, seval]
  refine VGdO hx (fun g81 hx => ?_) (fun g81 hx => ?_)
  · simp only [go_sem, seval, g81]
    refine hK _ ?_
    clear hK K
    refine Walk.condT rfl (Walk.seq (Walk.region' rfl fun K hK => ?_))
    simp only [go_sem, seval, g81]
    refine hK _ ?_
    clear hK K
    obtain rfl := Option.some.inj hx
    exact Walk.ret ⟨by simp [g81], by simp [g81]⟩
  · obtain ⟨v35, h82, hx⟩ := bind_elim hx
    simp only [go_sem, seval, g81]
    refine VCl.pure rfl (by simp only [go_sem, seval, g81]; try simp) (ref08_State_ok (v1.length : Int) v4 _ h82) (by simp only [go_sem, seval, g81]; try simp) (by simp only [go_sem, seval, g81]; try simp) (by simp only [go_sem, seval, g81]; try simp) (by simp only [go_sem, seval, g81]; try simp) (by simp only [go_sem, seval, g81]; try simp) (by simp only [go_sem, seval, g81]; try simp) ?_
    simp only [go_sem, seval, g81]
    refine hK _ ?_
    clear hK K
    refine Walk.condO rfl hx (fun c84 hx => ?_) (fun c84 hx => ?_)
    · refine Walk.seq (Walk.region' rfl fun K hK => ?_)
      simp only [go_sem, seval, g81, c84]
      refine hK _ ?_
      clear hK K
      obtain rfl := Option.some.inj hx
      exact Walk.ret ⟨by simp [g81, c84], by simp [g81, c84]⟩
    · refine Walk.skip (Walk.seq (Walk.region' rfl fun K hK => ?_))
      simp only [go_sem, seval, g81, c84]
      refine hK _ ?_
      clear hK K
      refine Walk.seq (Walk.seq (Walk.region' rfl fun K hK => ?_))
      simp only [go_sem, seval, g81, c84]
      refine hK _ ?_
      clear hK K
      refine Walk.block (Walk.loop ?_)
      refine Walk.weaken ⟨[(1, .d (.sl (List.map iD v4))), (2, .box 2 0), (7, .d (.int .i64 0)), (8, .d (.int .i64 0)), (9, .d (.int .i64 0))], [(2, some (.box [.d (.sl (List.map iD v1)), .d (.int .i64 v2), .d (.int .i64 v3)]))]⟩ (by simp [g81, c84]) (by simp [g81, c84]) ?_
      refine Walk.iter (σ := Int × Int × Int) (fun g => ⟨[(1, .d (.sl (List.map iD v4))), (2, .box 2 0), (7, .d (.int .i64 g.1)), (8, .d (.int .i64 g.2.1)), (9, .d (.int .i64 g.2.2))], [(2, some (.box [.d (.sl (List.map iD v1)), .d (.int .i64 v2), .d (.int .i64 v3)]))]⟩) (fun g : Int × Int × Int => ref08_Span_l0 v4 v1 g.1 g.2.1 g.2.2) _ (fun g y163 hx ih129 hr130 => ?_) (0, 0, 0) hx
      obtain ⟨v43, v44, v45⟩ := g
      unfold ref08_Span_l0 at hx
      try dsimp only at hx ⊢
      refine Walk.seq (Walk.seq (Walk.region' rfl fun K hK => ?_))
      simp only [go_sem, seval, g81, c84]
      refine hK _ ?_
      clear hK K
      refine Walk.condO rfl hx (fun c133 hx => ?_) (fun c133 hx => ?_)
      · refine Walk.skip (Walk.seq (Walk.block (Walk.seq (Walk.region' rfl fun K hK => ?_))))
        obtain ⟨v53, r134, a135, b136, c137, hx⟩ := rd_elim hx
        simp only [go_sem, seval, g81, c84, c133, a135, b136, c137]
        repeat refine And.intro (by first | omega | (simp; done) | (simp; omega)) ?_
        refine hK _ ?_
        clear hK K
        refine Walk.seq (Walk.seq (Walk.region' rfl fun K hK => ?_))
        obtain ⟨v55, h140, hx⟩ := bind_elim hx
        simp only [go_sem, seval, g81, c84, c133, a135, b136, c137]
        refine VCl.pure rfl (by simp only [go_sem, seval, g81, c84, c133, a135, b136, c137]; try simp) (ref08_coef_ok v53 _ h140) (by simp only [go_sem, seval, g81, c84, c133, a135, b136, c137]; try simp) (by simp only [go_sem, seval, g81, c84, c133, a135, b136, c137]; try simp) (by simp only [go_sem, seval, g81, c84, c133, a135, b136, c137]; try simp) (by simp only [go_sem, seval, g81, c84, c133, a135, b136, c137]; try simp) (by simp only [go_sem, seval, g81, c84, c133, a135, b136, c137]; try simp) (by simp only [go_sem, seval, g81, c84, c133, a135, b136, c137]; try simp) ?_
        simp only [go_sem, seval, g81, c84, c133, a135, b136, c137]
        refine hK _ ?_
        clear hK K
        refine Walk.condO rfl hx (fun c142 hx => ?_) (fun c142 hx => ?_)
        · refine Walk.seq (Walk.region' rfl fun K hK => ?_)
          simp only [go_sem, seval, g81, c84, c133, a135, b136, c137, c142]
          refine hK _ ?_
          clear hK K
          obtain ⟨z143, e144, hx⟩ := exit_elim hx
          rw [hr130 z143 e144] at hx
          obtain rfl := Option.some.inj hx
          exact Walk.ret ⟨by simp [g81, c84, c133, a135, b136, c137, c142], by simp [g81, c84, c133, a135, b136, c137, c142]⟩
        · refine Walk.skip (Walk.seq (Walk.join (G := Int × Int) (fun g => ⟨[(1, .d (.sl (List.map iD v4))), (2, .box 2 0), (7, .d (.int .i64 g.1)), (8, .d (.int .i64 g.2)), (9, .d (.int .i64 v45)), (10, .d (.int .i64 v53))], [(2, some (.box [.d (.sl (List.map iD v1)), .d (.int .i64 v2), .d (.int .i64 v3)]))]⟩) (fun g => ref08_Span_j1 v4 v45 v53 g.1 g.2) hx (fun g hx => ?_) (fun fin150 => ?_)))
          · obtain ⟨v57, v58⟩ := g
            unfold ref08_Span_j1 at hx
            try dsimp only at hx ⊢
            refine Walk.seq (Walk.region' rfl fun K hK => ?_)
            obtain ⟨v59, r151, a152, b153, c154, hx⟩ := rd_elim hx
            simp only [go_sem, seval, g81, c84, c133, a135, b136, c137, c142, a152, b153, c154]
            repeat refine And.intro (by first | omega | (simp; done) | (simp; omega)) ?_
            refine hK _ ?_
            clear hK K
            refine Walk.condO rfl hx (fun c155 hx => ?_) (fun c155 hx => ?_)
            · refine Walk.seq (Walk.region' rfl fun K hK => ?_)
              simp only [go_sem, seval, g81, c84, c133, a135, b136, c137, c142, a152, b153, c154, c155]
              refine hK _ ?_
              clear hK K
              refine Walk.region' rfl fun K hK => ?_
              simp only [go_sem, seval, g81, c84, c133, a135, b136, c137, c142, a152, b153, c154, c155]
              refine hK _ ?_
              clear hK K
              refine Walk.inBlock (Walk.region' rfl fun K hK => ?_)
              simp only [go_sem, seval, g81, c84, c133, a135, b136, c137, c142, a152, b153, c154, c155]
              refine hK _ ?_
              clear hK K
              exact Walk.weaken _ (by simp [g81, c84, c133, a135, b136, c137, c142, a152, b153, c154, c155]) (by simp [g81, c84, c133, a135, b136, c137, c142, a152, b153, c154, c155]) (ih129 _ (cont_elim hx))
            · refine Walk.skip (Walk.inBlock (Walk.region' rfl fun K hK => ?_))
              simp only [go_sem, seval, g81, c84, c133, a135, b136, c137, c142, a152, b153, c154, c155]
              refine hK _ ?_
              clear hK K
              exact Walk.weaken _ (by simp [g81, c84, c133, a135, b136, c137, c142, a152, b153, c154, c155]) (by simp [g81, c84, c133, a135, b136, c137, c142, a152, b153, c154, c155]) (ih129 _ (cont_elim hx))
          · refine Walk.seq (Walk.region' rfl fun K hK => ?_)
            obtain ⟨v60, r156, a157, b158, c159, hx⟩ := rd_elim hx
            simp only [go_sem, seval, g81, c84, c133, a135, b136, c137, c142, a157, b158, c159]
            repeat refine And.intro (by first | omega | (simp; done) | (simp; omega)) ?_
            refine hK _ ?_
            clear hK K
            refine Walk.condO rfl hx (fun c160 hx => ?_) (fun c160 hx => ?_)
            · refine Walk.seq (Walk.region' rfl fun K hK => ?_)
              simp only [go_sem, seval, g81, c84, c133, a135, b136, c137, c142, a157, b158, c159, c160]
              refine hK _ ?_
              clear hK K
              refine Walk.region' rfl fun K hK => ?_
              simp only [go_sem, seval, g81, c84, c133, a135, b136, c137, c142, a157, b158, c159, c160]
              refine hK _ ?_
              clear hK K
              exact Walk.weaken _ (by simp [g81, c84, c133, a135, b136, c137, c142, a157, b158, c159, c160]) (by simp [g81, c84, c133, a135, b136, c137, c142, a157, b158, c159, c160]) (fin150 (IntKind.i64.wrap (v43 + v53), IntKind.i64.wrap (v44 + v53)) hx)
            · refine Walk.skip ?_
              exact Walk.weaken _ (by simp [g81, c84, c133, a135, b136, c137, c142, a157, b158, c159, c160]) (by simp [g81, c84, c133, a135, b136, c137, c142, a157, b158, c159, c160]) (fin150 (v43, v44) hx)
      · refine Walk.exit rfl ?_
        obtain ⟨z161, e162, hx⟩ := exit_elim hx
        rw [hr130 z161 e162] at hx
        refine Walk.seq (Walk.region' rfl fun K hK => ?_)
        simp only [go_sem, seval, g81, c84, c133]
        refine hK _ ?_
        clear hK K
        obtain rfl := Option.some.inj hx
        exact Walk.ret ⟨by simp [g81, c84, c133], by simp [g81, c84, c133]⟩
noncomputable def ref08_Blocked (v1 : List Int) (v2 : Int) (v3 : Int) (v4 : List Int) : Option (Bool) :=
  (ref08_Span v1 v2 v3 v4).bind fun v7 => bif v7.2.2 then (bif decide (v7.1 > v3) then (some (true : Bool)) else (bif decide (v7.2.1 < v2) then (some (true : Bool)) else (some (decide (v2 > v3) : Bool)))) else (some (false : Bool))
theorem ref08_Blocked_ok (v1 : List Int) (v2 : Int) (v3 : Int) (v4 : List Int) (r : Bool) (hx : ref08_Blocked v1 v2 v3 v4 = some r) :
    ACalls Try.prog 49 [.agg [.d (.sl (List.map iD v1)), .d (.int .i64 v2), .d (.int .i64 v3)], .d (.sl (List.map iD v4))] [] (.d (.bool r)) [] := by
  refine ACalls.of_sem (n := 35) 0 [4] (fn := Try.f49) Try.func49 rfl rfl (.one rfl) rfl (by simp) (by intro i; simp only [hget]; (repeat' split) <;> simp <;> omega) ?_
  unfold ref08_Blocked at hx
  refine Walk.seq (Walk.region' rfl fun K hK => ?_)
  simp only [go_sem, seval]
  refine hK _ ?_
  clear hK K
  refine Walk.seq (Walk.region' rfl fun K hK => ?_)
  obtain ⟨v7, h5, hx⟩ := bind_elim hx
  simp only [go_sem, seval]
  refine VCl.pure rfl (by simp only [go_sem, seval]; try simp) (ref08_Span_ok v1 v2 v3 v4 _ h5) (by simp only [go_sem, seval]; try simp) (by simp only [go_sem, seval]; try simp) (by simp only [go_sem, seval]; try simp) (by simp only [go_sem, seval]; try simp) (by simp only [go_sem, seval]; try simp) (by simp only [go_sem, seval]; try simp) ?_
  simp only [go_sem, seval]
  refine hK _ ?_
  clear hK K
  refine Walk.seq (Walk.region' rfl fun K hK => ?_)
  simp only [go_sem, seval]
  refine VGdO hx (fun g6 hx => ?_) (fun g6 hx => ?_)
  · simp only [go_sem, seval, g6]
    refine VGdO hx (fun g7 hx => ?_) (fun g7 hx => ?_)
    · simp only [go_sem, seval, g6, g7]
      refine hK _ ?_
      clear hK K
      obtain rfl := Option.some.inj hx
      exact Walk.ret ⟨by simp [g6, g7], by simp [g6, g7]⟩
    · simp only [go_sem, seval, g6, g7]
      refine VGdO hx (fun g8 hx => ?_) (fun g8 hx => ?_)
      · simp only [go_sem, seval, g6, g7, g8]
        refine hK _ ?_
        clear hK K
        obtain rfl := Option.some.inj hx
        exact Walk.ret ⟨by simp [g6, g7, g8], by simp [g6, g7, g8]⟩
      · simp only [go_sem, seval, g6, g7, g8]
        refine hK _ ?_
        clear hK K
        obtain rfl := Option.some.inj hx
        exact Walk.ret ⟨by simp [g6, g7, g8], by simp [g6, g7, g8]⟩
  · simp only [go_sem, seval, g6]
    refine hK _ ?_
    clear hK K
    obtain rfl := Option.some.inj hx
    exact Walk.ret ⟨by simp [g6], by simp [g6]⟩
noncomputable def ref08_Dead_l0 (v2 : List Row) (v3 : List Int) (v22 : Int) : Option ((Int) ⊕ (Int)) :=
  bif decide (v22 < (v2.length : Int)) then ((rd v2 v22).bind fun v25 => (ref08_Blocked v25.Coefs v25.Least v25.Most v3).bind fun v26 => bif v26 then (exitO (some (v22 : Int))) else (contO (IntKind.i64.wrap (v22 + 1) : Int))) else (exitO (some (-1 : Int)))
noncomputable def ref08_Dead (v1 : List Int) (v2 : List Row) (v3 : List Int) : Option (Int) :=
  (ref08_Valid v1 v2).bind fun v18 => bif !v18 then (some (-1 : Int)) else ((ref08_State (v1.length : Int) v3).bind fun v19 => bif !v19 then (some (-1 : Int)) else (iter (fun g : Int => ref08_Dead_l0 v2 v3 g) 0))
theorem ref08_Dead_ok (v1 : List Int) (v2 : List Row) (v3 : List Int) (r : Int) (hx : ref08_Dead v1 v2 v3 = some r) :
    ACalls Try.prog 21 [.agg [.d (.sl (List.map iD v1)), .d (.sl (List.map Row.D v2))], .d (.sl (List.map iD v3))] [] (.d (.int .i64 r)) [] := by
  refine ACalls.of_sem (n := 32) 0 [4] (fn := Try.f21) Try.func21 rfl rfl (.one rfl) rfl (by simp) (by intro i; simp only [hget]; (repeat' split) <;> simp <;> omega) ?_
  unfold ref08_Dead at hx
  refine Walk.seq (Walk.region' rfl fun K hK => ?_)
  simp only [go_sem, seval]
  refine hK _ ?_
  clear hK K
  refine Walk.seq (Walk.seq (Walk.region' rfl fun K hK => ?_))
  obtain ⟨v18, h45, hx⟩ := bind_elim hx
  simp only [go_sem, seval]
  refine VCl.pure rfl (by simp only [go_sem, seval]; try simp) (ref08_Valid_ok v1 v2 _ h45) (by simp only [go_sem, seval]; try simp) (by simp only [go_sem, seval]; try simp) (by simp only [go_sem, seval]; try simp) (by simp only [go_sem, seval]; try simp) (by simp only [go_sem, seval]; try simp) (by simp only [go_sem, seval]; try simp) ?_
  simp only [go_sem, seval]
  refine VGdO hx (fun g46 hx => ?_) (fun g46 hx => ?_)
  · simp only [go_sem, seval, g46]
    refine hK _ ?_
    clear hK K
    refine Walk.condT rfl (Walk.seq (Walk.region' rfl fun K hK => ?_))
    simp only [go_sem, seval, g46]
    refine hK _ ?_
    clear hK K
    obtain rfl := Option.some.inj hx
    exact Walk.ret ⟨by simp [g46], by simp [g46]⟩
  · obtain ⟨v19, h47, hx⟩ := bind_elim hx
    simp only [go_sem, seval, g46]
    refine VCl.pure rfl (by simp only [go_sem, seval, g46]; try simp) (ref08_State_ok (v1.length : Int) v3 _ h47) (by simp only [go_sem, seval, g46]; try simp) (by simp only [go_sem, seval, g46]; try simp) (by simp only [go_sem, seval, g46]; try simp) (by simp only [go_sem, seval, g46]; try simp) (by simp only [go_sem, seval, g46]; try simp) (by simp only [go_sem, seval, g46]; try simp) ?_
    simp only [go_sem, seval, g46]
    refine hK _ ?_
    clear hK K
    refine Walk.condO rfl hx (fun c49 hx => ?_) (fun c49 hx => ?_)
    · refine Walk.seq (Walk.region' rfl fun K hK => ?_)
      simp only [go_sem, seval, g46, c49]
      refine hK _ ?_
      clear hK K
      obtain rfl := Option.some.inj hx
      exact Walk.ret ⟨by simp [g46, c49], by simp [g46, c49]⟩
    · refine Walk.skip (Walk.seq (Walk.seq (Walk.region' rfl fun K hK => ?_)))
      simp only [go_sem, seval, g46, c49]
      refine hK _ ?_
      clear hK K
      refine Walk.block (Walk.loop ?_)
      refine Walk.weaken ⟨[(1, .d (.sl (List.map iD v3))), (2, .box 2 0), (5, .d (.int .i64 0))], [(2, some (.box [.d (.sl (List.map iD v1)), .d (.sl (List.map Row.D v2))]))]⟩ (by simp [g46, c49]) (by simp [g46, c49]) ?_
      refine Walk.iter (σ := Int) (fun g => ⟨[(1, .d (.sl (List.map iD v3))), (2, .box 2 0), (5, .d (.int .i64 g))], [(2, some (.box [.d (.sl (List.map iD v1)), .d (.sl (List.map Row.D v2))]))]⟩) (fun g : Int => ref08_Dead_l0 v2 v3 g) _ (fun v22 y83 hx ih68 hr69 => ?_) 0 hx
      unfold ref08_Dead_l0 at hx
      try dsimp only at hx ⊢
      refine Walk.seq (Walk.seq (Walk.region' rfl fun K hK => ?_))
      simp only [go_sem, seval, g46, c49]
      refine hK _ ?_
      clear hK K
      refine Walk.condO rfl hx (fun c72 hx => ?_) (fun c72 hx => ?_)
      · refine Walk.skip (Walk.seq (Walk.block (Walk.seq (Walk.region' rfl fun K hK => ?_))))
        obtain ⟨v25, r73, a74, b75, c76, hx⟩ := rd_elim hx
        obtain ⟨v26, h77, hx⟩ := bind_elim hx
        simp only [go_sem, seval, g46, c49, c72, a74, b75, c76]
        repeat refine And.intro (by first | omega | (simp; done) | (simp; omega)) ?_
        refine VCl.pure rfl (by simp only [go_sem, seval, g46, c49, c72, a74, b75, c76]; try simp) (ref08_Blocked_ok v25.Coefs v25.Least v25.Most v3 _ h77) (by simp only [go_sem, seval, g46, c49, c72, a74, b75, c76]; try simp) (by simp only [go_sem, seval, g46, c49, c72, a74, b75, c76]; try simp) (by simp only [go_sem, seval, g46, c49, c72, a74, b75, c76]; try simp) (by simp only [go_sem, seval, g46, c49, c72, a74, b75, c76]; try simp) (by simp only [go_sem, seval, g46, c49, c72, a74, b75, c76]; try simp) (by simp only [go_sem, seval, g46, c49, c72, a74, b75, c76]; try simp) ?_
        simp only [go_sem, seval, g46, c49, c72, a74, b75, c76]
        refine hK _ ?_
        clear hK K
        refine Walk.condO rfl hx (fun c78 hx => ?_) (fun c78 hx => ?_)
        · refine Walk.seq (Walk.region' rfl fun K hK => ?_)
          simp only [go_sem, seval, g46, c49, c72, a74, b75, c76, c78]
          refine hK _ ?_
          clear hK K
          obtain ⟨z79, e80, hx⟩ := exit_elim hx
          rw [hr69 z79 e80] at hx
          obtain rfl := Option.some.inj hx
          exact Walk.ret ⟨by simp [g46, c49, c72, a74, b75, c76, c78], by simp [g46, c49, c72, a74, b75, c76, c78]⟩
        · refine Walk.skip (Walk.inBlock (Walk.region' rfl fun K hK => ?_))
          simp only [go_sem, seval, g46, c49, c72, a74, b75, c76, c78]
          refine hK _ ?_
          clear hK K
          exact Walk.weaken _ (by simp [g46, c49, c72, a74, b75, c76, c78]) (by simp [g46, c49, c72, a74, b75, c76, c78]) (ih68 _ (cont_elim hx))
      · refine Walk.exit rfl ?_
        obtain ⟨z81, e82, hx⟩ := exit_elim hx
        rw [hr69 z81 e82] at hx
        refine Walk.seq (Walk.region' rfl fun K hK => ?_)
        simp only [go_sem, seval, g46, c49, c72]
        refine hK _ ?_
        clear hK K
        obtain rfl := Option.some.inj hx
        exact Walk.ret ⟨by simp [g46, c49, c72], by simp [g46, c49, c72]⟩
noncomputable def blueprint_ascending_l0 (v1 : List Int) (v8 : Int) : Option ((Int) ⊕ (Bool)) :=
  bif decide (v8 < (v1.length : Int)) then (bif decide (v8 > 0) then ((rd v1 (IntKind.i64.wrap (v8 - 1))).bind fun v11 => (rd v1 v8).bind fun v12 => bif decide (v11 ≥ v12) then (exitO (some (false : Bool))) else (contO (IntKind.i64.wrap (v8 + 1) : Int))) else (contO (IntKind.i64.wrap (v8 + 1) : Int))) else (exitO (some (true : Bool)))
noncomputable def blueprint_ascending (v1 : List Int) : Option (Bool) :=
  iter (fun g : Int => blueprint_ascending_l0 v1 g) 0
theorem blueprint_ascending_ok (v1 : List Int) (r : Bool) (hx : blueprint_ascending v1 = some r) :
    ACalls Try.prog 58 [.d (.sl (List.map iD v1))] [] (.d (.bool r)) [] := by
  refine ACalls.of_sem (n := 24) 0 [2] (fn := Try.f58) Try.func58 rfl rfl (.one rfl) rfl (by simp) (by intro i; simp only [hget]; (repeat' split) <;> simp <;> omega) ?_
  unfold blueprint_ascending at hx
  refine Walk.seq (Walk.region' rfl fun K hK => ?_)
  simp only [go_sem, seval]
  refine hK _ ?_
  clear hK K
  refine Walk.seq (Walk.seq (Walk.region' rfl fun K hK => ?_))
  simp only [go_sem, seval]
  refine hK _ ?_
  clear hK K
  refine Walk.block (Walk.loop ?_)
  refine Walk.weaken ⟨[(0, .d (.sl (List.map iD v1))), (5, .d (.int .i64 (v1.length : Int))), (6, .d (.int .i64 0))], []⟩ (by simp) (by simp) ?_
  refine Walk.iter (σ := Int) (fun g => ⟨[(0, .d (.sl (List.map iD v1))), (5, .d (.int .i64 (v1.length : Int))), (6, .d (.int .i64 g))], []⟩) (fun g : Int => blueprint_ascending_l0 v1 g) _ (fun v8 y63 hx ih45 hr46 => ?_) 0 hx
  unfold blueprint_ascending_l0 at hx
  try dsimp only at hx ⊢
  refine Walk.seq (Walk.region' rfl fun K hK => ?_)
  simp only [go_sem, seval]
  refine hK _ ?_
  clear hK K
  refine Walk.seq (Walk.condO rfl hx (fun c48 hx => ?_) (fun c48 hx => ?_))
  · refine Walk.skip (Walk.seq (Walk.block (Walk.seq (Walk.region' rfl fun K hK => ?_))))
    simp only [go_sem, seval, c48]
    refine hK _ ?_
    clear hK K
    refine Walk.seq (Walk.drawn' rfl mixed fun K hK => ?_)
    simp only [go_sem, seval, c48]
    refine VGdO hx (fun g49 hx => ?_) (fun g49 hx => ?_)
    · obtain ⟨v11, r50, a51, b52, c53, hx⟩ := rd_elim hx
      obtain ⟨v12, r54, a55, b56, c57, hx⟩ := rd_elim hx
      simp only [go_sem, seval, c48, g49, a51, b52, c53, a55, b56, c57]
      repeat refine And.intro (by first | omega | (simp; done) | (simp; omega)) ?_
      refine hK _ _ (by kernel_rfl) (by simp [c48, g49, a51, b52, c53, a55, b56, c57]) ?_
      clear hK K
      refine Walk.condO rfl hx (fun c58 hx => ?_) (fun c58 hx => ?_)
      · refine Walk.seq (Walk.region' rfl fun K hK => ?_)
        simp only [go_sem, seval, c48, g49, a51, b52, c53, a55, b56, c57, c58]
        refine hK _ ?_
        clear hK K
        obtain ⟨z59, e60, hx⟩ := exit_elim hx
        rw [hr46 z59 e60] at hx
        obtain rfl := Option.some.inj hx
        exact Walk.ret ⟨by simp [c48, g49, a51, b52, c53, a55, b56, c57, c58], by simp [c48, g49, a51, b52, c53, a55, b56, c57, c58]⟩
      · refine Walk.skip (Walk.inBlock (Walk.region' rfl fun K hK => ?_))
        simp only [go_sem, seval, c48, g49, a51, b52, c53, a55, b56, c57, c58]
        refine hK _ ?_
        clear hK K
        exact Walk.weaken _ (by simp [c48, g49, a51, b52, c53, a55, b56, c57, c58]) (by simp [c48, g49, a51, b52, c53, a55, b56, c57, c58]) (ih45 _ (cont_elim hx))
    · simp only [go_sem, seval, c48, g49]
      refine hK _ _ (by kernel_rfl) (by simp [c48, g49]) ?_
      clear hK K
      refine Walk.condF rfl (Walk.skip (Walk.inBlock (Walk.region' rfl fun K hK => ?_)))
      simp only [go_sem, seval, c48, g49]
      refine hK _ ?_
      clear hK K
      exact Walk.weaken _ (by simp [c48, g49]) (by simp [c48, g49]) (ih45 _ (cont_elim hx))
  · refine Walk.exit rfl ?_
    obtain ⟨z61, e62, hx⟩ := exit_elim hx
    rw [hr46 z61 e62] at hx
    refine Walk.seq (Walk.region' rfl fun K hK => ?_)
    simp only [go_sem, seval, c48]
    refine hK _ ?_
    clear hK K
    obtain rfl := Option.some.inj hx
    exact Walk.ret ⟨by simp [c48], by simp [c48]⟩
noncomputable def blueprint_choice (v1 : List Int) (v2 : Int) : Option (Bool) :=
  (blueprint_ascending v1).bind fun v6 => bif v6 then ((blueprint_in (IntKind.i64.wrap (v2 - 1)) v1).bind fun v7 => some (v7 : Bool)) else (some (false : Bool))
theorem blueprint_choice_ok (v1 : List Int) (v2 : Int) (r : Bool) (hx : blueprint_choice v1 v2 = some r) :
    ACalls Try.prog 50 [.d (.sl (List.map iD v1)), .d (.int .i64 v2)] [] (.d (.bool r)) [] := by
  refine ACalls.of_sem (n := 13) 0 [4] (fn := Try.f50) Try.func50 rfl rfl (.one rfl) rfl (by simp) (by intro i; simp only [hget]; (repeat' split) <;> simp <;> omega) ?_
  unfold blueprint_choice at hx
  refine Walk.seq (Walk.region' rfl fun K hK => ?_)
  simp only [go_sem, seval]
  refine hK _ ?_
  clear hK K
  refine Walk.seq (Walk.region' rfl fun K hK => ?_)
  obtain ⟨v6, h4, hx⟩ := bind_elim hx
  simp only [go_sem, seval]
  refine VCl.pure rfl (by simp only [go_sem, seval]; try simp) (blueprint_ascending_ok v1 _ h4) (by simp only [go_sem, seval]; try simp) (by simp only [go_sem, seval]; try simp) (by simp only [go_sem, seval]; try simp) (by simp only [go_sem, seval]; try simp) (by simp only [go_sem, seval]; try simp) (by simp only [go_sem, seval]; try simp) ?_
  simp only [go_sem, seval]
  refine VGdO hx (fun g5 hx => ?_) (fun g5 hx => ?_)
  · obtain ⟨v7, h6, hx⟩ := bind_elim hx
    simp only [go_sem, seval, g5]
    refine VCl.pure rfl (by simp only [go_sem, seval, g5]; try simp) (blueprint_in_ok (IntKind.i64.wrap (v2 - 1)) v1 _ h6) (by simp only [go_sem, seval, g5]; try simp) (by simp only [go_sem, seval, g5]; try simp) (by simp only [go_sem, seval, g5]; try simp) (by simp only [go_sem, seval, g5]; try simp) (by simp only [go_sem, seval, g5]; try simp) (by simp only [go_sem, seval, g5]; try simp) ?_
    simp only [go_sem, seval, g5]
    refine hK _ ?_
    clear hK K
    obtain rfl := Option.some.inj hx
    exact Walk.ret ⟨by simp [g5], by simp [g5]⟩
  · simp only [go_sem, seval, g5]
    refine hK _ ?_
    clear hK K
    obtain rfl := Option.some.inj hx
    exact Walk.ret ⟨by simp [g5], by simp [g5]⟩
noncomputable def blueprint_sum_l0 (v2 : List Int) (v1 : List Int) (v14 : Int) (v15 : Int) : Option ((Int × Int) ⊕ (Int)) :=
  bif decide (v15 < (v2.length : Int)) then ((rd v2 v15).bind fun v18 => (rd v1 v18).bind fun v19 => contO ((IntKind.i64.wrap (v14 + v19), IntKind.i64.wrap (v15 + 1)) : Int × Int)) else (exitO (some (v14 : Int)))
noncomputable def blueprint_sum (v1 : List Int) (v2 : List Int) : Option (Int) :=
  iter (fun g : Int × Int => blueprint_sum_l0 v2 v1 g.1 g.2) (0, 0)
theorem blueprint_sum_ok (v1 : List Int) (v2 : List Int) (r : Int) (hx : blueprint_sum v1 v2 = some r) :
    ACalls Try.prog 51 [.d (.sl (List.map iD v1)), .d (.sl (List.map iD v2))] [] (.d (.int .i64 r)) [] := by
  refine ACalls.of_sem (n := 22) 0 [4] (fn := Try.f51) Try.func51 rfl rfl (.one rfl) rfl (by simp) (by intro i; simp only [hget]; (repeat' split) <;> simp <;> omega) ?_
  unfold blueprint_sum at hx
  refine Walk.seq (Walk.region' rfl fun K hK => ?_)
  simp only [go_sem, seval]
  refine hK _ ?_
  clear hK K
  refine Walk.seq (Walk.region' rfl fun K hK => ?_)
  simp only [go_sem, seval]
  refine hK _ ?_
  clear hK K
  refine Walk.seq (Walk.seq (Walk.region' rfl fun K hK => ?_))
  simp only [go_sem, seval]
  refine hK _ ?_
  clear hK K
  refine Walk.block (Walk.loop ?_)
  refine Walk.weaken ⟨[(0, .d (.sl (List.map iD v1))), (5, .d (.int .i64 0)), (8, .d (.sl (List.map iD v2))), (9, .d (.int .i64 (v2.length : Int))), (10, .d (.int .i64 0))], []⟩ (by simp) (by simp) ?_
  refine Walk.iter (σ := Int × Int) (fun g => ⟨[(0, .d (.sl (List.map iD v1))), (5, .d (.int .i64 g.1)), (8, .d (.sl (List.map iD v2))), (9, .d (.int .i64 (v2.length : Int))), (10, .d (.int .i64 g.2))], []⟩) (fun g : Int × Int => blueprint_sum_l0 v2 v1 g.1 g.2) _ (fun g y69 hx ih55 hr56 => ?_) (0, 0) hx
  obtain ⟨v14, v15⟩ := g
  unfold blueprint_sum_l0 at hx
  try dsimp only at hx ⊢
  refine Walk.seq (Walk.region' rfl fun K hK => ?_)
  simp only [go_sem, seval]
  refine hK _ ?_
  clear hK K
  refine Walk.seq (Walk.condO rfl hx (fun c58 hx => ?_) (fun c58 hx => ?_))
  · refine Walk.skip (Walk.seq (Walk.block (Walk.seq (Walk.region' rfl fun K hK => ?_))))
    obtain ⟨v18, r59, a60, b61, c62, hx⟩ := rd_elim hx
    simp only [go_sem, seval, c58, a60, b61, c62]
    repeat refine And.intro (by first | omega | (simp; done) | (simp; omega)) ?_
    refine hK _ ?_
    clear hK K
    refine Walk.region' rfl fun K hK => ?_
    obtain ⟨v19, r63, a64, b65, c66, hx⟩ := rd_elim hx
    simp only [go_sem, seval, c58, a60, b61, c62, a64, b65, c66]
    repeat refine And.intro (by first | omega | (simp; done) | (simp; omega)) ?_
    refine hK _ ?_
    clear hK K
    refine Walk.inBlock (Walk.region' rfl fun K hK => ?_)
    simp only [go_sem, seval, c58, a60, b61, c62, a64, b65, c66]
    refine hK _ ?_
    clear hK K
    exact Walk.weaken _ (by simp [c58, a60, b61, c62, a64, b65, c66]) (by simp [c58, a60, b61, c62, a64, b65, c66]) (ih55 _ (cont_elim hx))
  · refine Walk.exit rfl ?_
    obtain ⟨z67, e68, hx⟩ := exit_elim hx
    rw [hr56 z67 e68] at hx
    refine Walk.seq (Walk.region' rfl fun K hK => ?_)
    simp only [go_sem, seval, c58]
    refine hK _ ?_
    clear hK K
    obtain rfl := Option.some.inj hx
    exact Walk.ret ⟨by simp [c58], by simp [c58]⟩
noncomputable def blueprint_Meets_l0 (v2 : List Row) (v3 : List Int) (v22 : Int) : Option ((Int) ⊕ (Bool)) :=
  bif decide (v22 < (v2.length : Int)) then ((rd v2 v22).bind fun v25 => (blueprint_sum v25.Coefs v3).bind fun v26 => bif decide (v26 < v25.Least) then (exitO (some (false : Bool))) else (bif decide (v26 > v25.Most) then (exitO (some (false : Bool))) else (contO (IntKind.i64.wrap (v22 + 1) : Int)))) else (exitO (some (true : Bool)))
noncomputable def blueprint_Meets (v1 : List Int) (v2 : List Row) (v3 : List Int) : Option (Bool) :=
  (blueprint_Valid v1 v2).bind fun v18 => bif !v18 then (some (false : Bool)) else ((blueprint_choice v3 (v1.length : Int)).bind fun v19 => bif !v19 then (some (false : Bool)) else (iter (fun g : Int => blueprint_Meets_l0 v2 v3 g) 0))
theorem blueprint_Meets_ok (v1 : List Int) (v2 : List Row) (v3 : List Int) (r : Bool) (hx : blueprint_Meets v1 v2 v3 = some r) :
    ACalls Try.prog 26 [.agg [.d (.sl (List.map iD v1)), .d (.sl (List.map Row.D v2))], .d (.sl (List.map iD v3))] [] (.d (.bool r)) [] := by
  refine ACalls.of_sem (n := 41) 0 [4] (fn := Try.f26) Try.func26 rfl rfl (.one rfl) rfl (by simp) (by intro i; simp only [hget]; (repeat' split) <;> simp <;> omega) ?_
  unfold blueprint_Meets at hx
  refine Walk.seq (Walk.region' rfl fun K hK => ?_)
  simp only [go_sem, seval]
  refine hK _ ?_
  clear hK K
  refine Walk.seq (Walk.seq (Walk.region' rfl fun K hK => ?_))
  obtain ⟨v18, h45, hx⟩ := bind_elim hx
  simp only [go_sem, seval]
  refine VCl.pure rfl (by simp only [go_sem, seval]; try simp) (blueprint_Valid_ok v1 v2 _ h45) (by simp only [go_sem, seval]; try simp) (by simp only [go_sem, seval]; try simp) (by simp only [go_sem, seval]; try simp) (by simp only [go_sem, seval]; try simp) (by simp only [go_sem, seval]; try simp) (by simp only [go_sem, seval]; try simp) ?_
  simp only [go_sem, seval]
  refine VGdO hx (fun g46 hx => ?_) (fun g46 hx => ?_)
  · simp only [go_sem, seval, g46]
    refine hK _ ?_
    clear hK K
    refine Walk.condT rfl (Walk.seq (Walk.region' rfl fun K hK => ?_))
    simp only [go_sem, seval, g46]
    refine hK _ ?_
    clear hK K
    obtain rfl := Option.some.inj hx
    exact Walk.ret ⟨by simp [g46], by simp [g46]⟩
  · obtain ⟨v19, h47, hx⟩ := bind_elim hx
    simp only [go_sem, seval, g46]
    refine VCl.pure rfl (by simp only [go_sem, seval, g46]; try simp) (blueprint_choice_ok v3 (v1.length : Int) _ h47) (by simp only [go_sem, seval, g46]; try simp) (by simp only [go_sem, seval, g46]; try simp) (by simp only [go_sem, seval, g46]; try simp) (by simp only [go_sem, seval, g46]; try simp) (by simp only [go_sem, seval, g46]; try simp) (by simp only [go_sem, seval, g46]; try simp) ?_
    simp only [go_sem, seval, g46]
    refine hK _ ?_
    clear hK K
    refine Walk.condO rfl hx (fun c49 hx => ?_) (fun c49 hx => ?_)
    · refine Walk.seq (Walk.region' rfl fun K hK => ?_)
      simp only [go_sem, seval, g46, c49]
      refine hK _ ?_
      clear hK K
      obtain rfl := Option.some.inj hx
      exact Walk.ret ⟨by simp [g46, c49], by simp [g46, c49]⟩
    · refine Walk.skip (Walk.seq (Walk.seq (Walk.region' rfl fun K hK => ?_)))
      simp only [go_sem, seval, g46, c49]
      refine hK _ ?_
      clear hK K
      refine Walk.block (Walk.loop ?_)
      refine Walk.weaken ⟨[(1, .d (.sl (List.map iD v3))), (20, .d (.sl (List.map Row.D v2))), (21, .d (.int .i64 (v2.length : Int))), (22, .d (.int .i64 0))], []⟩ (by simp [g46, c49]) (by simp [g46, c49]) ?_
      refine Walk.iter (σ := Int) (fun g => ⟨[(1, .d (.sl (List.map iD v3))), (20, .d (.sl (List.map Row.D v2))), (21, .d (.int .i64 (v2.length : Int))), (22, .d (.int .i64 g))], []⟩) (fun g : Int => blueprint_Meets_l0 v2 v3 g) _ (fun v22 y85 hx ih68 hr69 => ?_) 0 hx
      unfold blueprint_Meets_l0 at hx
      try dsimp only at hx ⊢
      refine Walk.seq (Walk.region' rfl fun K hK => ?_)
      simp only [go_sem, seval, g46, c49]
      refine hK _ ?_
      clear hK K
      refine Walk.seq (Walk.condO rfl hx (fun c71 hx => ?_) (fun c71 hx => ?_))
      · refine Walk.skip (Walk.seq (Walk.block (Walk.seq (Walk.region' rfl fun K hK => ?_))))
        obtain ⟨v25, r72, a73, b74, c75, hx⟩ := rd_elim hx
        simp only [go_sem, seval, g46, c49, c71, a73, b74, c75]
        repeat refine And.intro (by first | omega | (simp; done) | (simp; omega)) ?_
        refine hK _ ?_
        clear hK K
        refine Walk.seq (Walk.region' rfl fun K hK => ?_)
        obtain ⟨v26, h76, hx⟩ := bind_elim hx
        simp only [go_sem, seval, g46, c49, c71, a73, b74, c75]
        refine VCl.pure rfl (by simp only [go_sem, seval, g46, c49, c71, a73, b74, c75]; try simp) (blueprint_sum_ok v25.Coefs v3 _ h76) (by simp only [go_sem, seval, g46, c49, c71, a73, b74, c75]; try simp) (by simp only [go_sem, seval, g46, c49, c71, a73, b74, c75]; try simp) (by simp only [go_sem, seval, g46, c49, c71, a73, b74, c75]; try simp) (by simp only [go_sem, seval, g46, c49, c71, a73, b74, c75]; try simp) (by simp only [go_sem, seval, g46, c49, c71, a73, b74, c75]; try simp) (by simp only [go_sem, seval, g46, c49, c71, a73, b74, c75]; try simp) ?_
        simp only [go_sem, seval, g46, c49, c71, a73, b74, c75]
        refine hK _ ?_
        clear hK K
        refine Walk.seq (Walk.region' rfl fun K hK => ?_)
        simp only [go_sem, seval, g46, c49, c71, a73, b74, c75]
        refine VGdO hx (fun g77 hx => ?_) (fun g77 hx => ?_)
        · simp only [go_sem, seval, g46, c49, c71, a73, b74, c75, g77]
          refine hK _ ?_
          clear hK K
          refine Walk.condT rfl (Walk.seq (Walk.region' rfl fun K hK => ?_))
          simp only [go_sem, seval, g46, c49, c71, a73, b74, c75, g77]
          refine hK _ ?_
          clear hK K
          obtain ⟨z78, e79, hx⟩ := exit_elim hx
          rw [hr69 z78 e79] at hx
          obtain rfl := Option.some.inj hx
          exact Walk.ret ⟨by simp [g46, c49, c71, a73, b74, c75, g77], by simp [g46, c49, c71, a73, b74, c75, g77]⟩
        · simp only [go_sem, seval, g46, c49, c71, a73, b74, c75, g77]
          refine hK _ ?_
          clear hK K
          refine Walk.condO rfl hx (fun c80 hx => ?_) (fun c80 hx => ?_)
          · refine Walk.seq (Walk.region' rfl fun K hK => ?_)
            simp only [go_sem, seval, g46, c49, c71, a73, b74, c75, g77, c80]
            refine hK _ ?_
            clear hK K
            obtain ⟨z81, e82, hx⟩ := exit_elim hx
            rw [hr69 z81 e82] at hx
            obtain rfl := Option.some.inj hx
            exact Walk.ret ⟨by simp [g46, c49, c71, a73, b74, c75, g77, c80], by simp [g46, c49, c71, a73, b74, c75, g77, c80]⟩
          · refine Walk.skip (Walk.inBlock (Walk.region' rfl fun K hK => ?_))
            simp only [go_sem, seval, g46, c49, c71, a73, b74, c75, g77, c80]
            refine hK _ ?_
            clear hK K
            exact Walk.weaken _ (by simp [g46, c49, c71, a73, b74, c75, g77, c80]) (by simp [g46, c49, c71, a73, b74, c75, g77, c80]) (ih68 _ (cont_elim hx))
      · refine Walk.exit rfl ?_
        obtain ⟨z83, e84, hx⟩ := exit_elim hx
        rw [hr69 z83 e84] at hx
        refine Walk.seq (Walk.region' rfl fun K hK => ?_)
        simp only [go_sem, seval, g46, c49, c71]
        refine hK _ ?_
        clear hK K
        obtain rfl := Option.some.inj hx
        exact Walk.ret ⟨by simp [g46, c49, c71], by simp [g46, c49, c71]⟩
noncomputable def law08_awake : Option (Bool) :=
  (blueprint_Span [4, 5, 6] 9 10 [0, -1, -1]).bind fun v6 => (blueprint_Meets [1, 1, 1] ([(Row.mk [1, 1, 1] 1 2), (Row.mk [4, 5, 6] 9 10), (Row.mk [0, 1, 1] 0 1)]) [0, 1]).bind fun v7 => bif v7 then ((blueprint_Meets [1, 1, 1] ([(Row.mk [1, 1, 1] 1 2), (Row.mk [4, 5, 6] 9 10), (Row.mk [0, 1, 1] 0 1)]) [1, 2]).bind fun v8 => bif !v8 then (bif v6.2.2 then (bif decide (v6.1 = 0) then (bif decide (v6.2.1 = 11) then ((blueprint_Dead [1, 1, 1] ([(Row.mk [1, 1, 1] 1 2), (Row.mk [4, 5, 6] 9 10), (Row.mk [0, 1, 1] 0 1)]) [0, -1, -1]).bind fun v9 => some (decide (v9 = (-1)) : Bool)) else (some (false : Bool))) else (some (false : Bool))) else (some (false : Bool))) else (some (false : Bool))) else (some (false : Bool))
theorem law08_awake_ok (r : Bool) (hx : law08_awake = some r) :
    ACalls Try.prog 18 [] [] (.d (.bool r)) [] := by
  refine ACalls.of_sem (n := 50) 0 [0] (fn := Try.f18) Try.func18 rfl rfl (.one rfl) rfl (by simp) (by intro i; simp only [hget]; (repeat' split) <;> simp <;> omega) ?_
  unfold law08_awake at hx
  refine Walk.seq (Walk.region' rfl fun K hK => ?_)
  simp only [go_sem, seval]
  refine hK _ ?_
  clear hK K
  refine Walk.seq (Walk.region' rfl fun K hK => ?_)
  simp only [go_sem, seval]
  refine hK _ ?_
  clear hK K
  refine Walk.weaken ⟨[(1, .box 1 0)], [(1, some (.box [.arr 5 0 3, .arr 12 0 3])), (5, some (.arr 3 1 (List.map iD [1, 1, 1]))), (12, some (.arr 32 3 (List.map Row.D ([(Row.mk [1, 1, 1] 1 2), (Row.mk [4, 5, 6] 9 10), (Row.mk [0, 1, 1] 0 1)]))))]⟩ (by simp) (by simp) ?_
  refine Walk.seq (Walk.region' rfl fun K hK => ?_)
  obtain ⟨v6, h10, hx⟩ := bind_elim hx
  simp only [go_sem, seval]
  repeat refine And.intro (by first | omega | (simp; done) | (simp; omega)) ?_
  refine VCl.lent rfl (by simp only [go_sem, seval]; try simp) (blueprint_Span_ok [4, 5, 6] 9 10 [0, -1, -1] _ h10) (by simp) (by simp) (by simp) (by simp) (by simp) (by simp) (by simp) ?_
  simp only [go_sem, seval]
  refine hK _ ?_
  clear hK K
  refine Walk.weaken ⟨[(1, .box 1 0), (2, .d (.int .i64 v6.1)), (3, .d (.int .i64 v6.2.1)), (4, .d (.bool v6.2.2))], [(1, some (.box [.arr 5 0 3, .arr 12 0 3])), (5, some (.arr 3 1 (List.map iD [1, 1, 1]))), (12, some (.arr 32 3 (List.map Row.D ([(Row.mk [1, 1, 1] 1 2), (Row.mk [4, 5, 6] 9 10), (Row.mk [0, 1, 1] 0 1)]))))]⟩ (by simp) (by simp) ?_
  refine Walk.seq (Walk.region' rfl fun K hK => ?_)
  obtain ⟨v7, h11, hx⟩ := bind_elim hx
  simp only [go_sem, seval]
  refine VCl.lent rfl (by simp only [go_sem, seval]; try simp) (blueprint_Meets_ok [1, 1, 1] ([(Row.mk [1, 1, 1] 1 2), (Row.mk [4, 5, 6] 9 10), (Row.mk [0, 1, 1] 0 1)]) [0, 1] _ h11) (by simp) (by simp) (by simp) (by simp) (by simp) (by simp) (by simp) ?_
  simp only [go_sem, seval]
  refine VGdO hx (fun g12 hx => ?_) (fun g12 hx => ?_)
  · obtain ⟨v8, h13, hx⟩ := bind_elim hx
    simp only [go_sem, seval, g12]
    refine VCl.lent rfl (by simp only [go_sem, seval, g12]; try simp) (blueprint_Meets_ok [1, 1, 1] ([(Row.mk [1, 1, 1] 1 2), (Row.mk [4, 5, 6] 9 10), (Row.mk [0, 1, 1] 0 1)]) [1, 2] _ h13) (by simp [g12]) (by simp [g12]) (by simp [g12]) (by simp [g12]) (by simp [g12]) (by simp [g12]) (by simp [g12]) ?_
    simp only [go_sem, seval, g12]
    refine VGdO hx (fun g14 hx => ?_) (fun g14 hx => ?_)
    · simp only [go_sem, seval, g12, g14]
      refine VGdO hx (fun g15 hx => ?_) (fun g15 hx => ?_)
      · simp only [go_sem, seval, g12, g14, g15]
        refine VGdO hx (fun g16 hx => ?_) (fun g16 hx => ?_)
        · simp only [go_sem, seval, g12, g14, g15, g16]
          refine VGdO hx (fun g17 hx => ?_) (fun g17 hx => ?_)
          · obtain ⟨v9, h18, hx⟩ := bind_elim hx
            simp only [go_sem, seval, g12, g14, g15, g16, g17]
            refine VCl.lent rfl (by simp only [go_sem, seval, g12, g14, g15, g16, g17]; try simp) (blueprint_Dead_ok [1, 1, 1] ([(Row.mk [1, 1, 1] 1 2), (Row.mk [4, 5, 6] 9 10), (Row.mk [0, 1, 1] 0 1)]) [0, -1, -1] _ h18) (by simp [g12, g14, g15, g16, g17]) (by simp [g12, g14, g15, g16, g17]) (by simp [g12, g14, g15, g16, g17]) (by simp [g12, g14, g15, g16, g17]) (by simp [g12, g14, g15, g16, g17]) (by simp [g12, g14, g15, g16, g17]) (by simp [g12, g14, g15, g16, g17]) ?_
            simp only [go_sem, seval, g12, g14, g15, g16, g17]
            refine hK _ ?_
            clear hK K
            refine Walk.weaken ⟨[(0, .d (.bool (decide (v9 = (-1)))))], []⟩ (by simp [g12, g14, g15, g16, g17]) (by simp [g12, g14, g15, g16, g17]) ?_
            obtain rfl := Option.some.inj hx
            exact Walk.ret ⟨by simp [g12, g14, g15, g16, g17], by simp [g12, g14, g15, g16, g17]⟩
          · simp only [go_sem, seval, g12, g14, g15, g16, g17]
            refine hK _ ?_
            clear hK K
            refine Walk.weaken ⟨[(0, .d (.bool false))], []⟩ (by simp [g12, g14, g15, g16, g17]) (by simp [g12, g14, g15, g16, g17]) ?_
            obtain rfl := Option.some.inj hx
            exact Walk.ret ⟨by simp [g12, g14, g15, g16, g17], by simp [g12, g14, g15, g16, g17]⟩
        · simp only [go_sem, seval, g12, g14, g15, g16]
          refine hK _ ?_
          clear hK K
          refine Walk.weaken ⟨[(0, .d (.bool false))], []⟩ (by simp [g12, g14, g15, g16]) (by simp [g12, g14, g15, g16]) ?_
          obtain rfl := Option.some.inj hx
          exact Walk.ret ⟨by simp [g12, g14, g15, g16], by simp [g12, g14, g15, g16]⟩
      · simp only [go_sem, seval, g12, g14, g15]
        refine hK _ ?_
        clear hK K
        refine Walk.weaken ⟨[(0, .d (.bool false))], []⟩ (by simp [g12, g14, g15]) (by simp [g12, g14, g15]) ?_
        obtain rfl := Option.some.inj hx
        exact Walk.ret ⟨by simp [g12, g14, g15], by simp [g12, g14, g15]⟩
    · simp only [go_sem, seval, g12, g14]
      refine hK _ ?_
      clear hK K
      refine Walk.weaken ⟨[(0, .d (.bool false))], []⟩ (by simp [g12, g14]) (by simp [g12, g14]) ?_
      obtain rfl := Option.some.inj hx
      exact Walk.ret ⟨by simp [g12, g14], by simp [g12, g14]⟩
  · simp only [go_sem, seval, g12]
    refine hK _ ?_
    clear hK K
    refine Walk.weaken ⟨[(0, .d (.bool false))], []⟩ (by simp [g12]) (by simp [g12]) ?_
    obtain rfl := Option.some.inj hx
    exact Walk.ret ⟨by simp [g12], by simp [g12]⟩
noncomputable def law08_BlueprintDead_j0 (v13 : Int × List Row × List Int) (v17 : List Int) : Option (Bool) :=
  (blueprint_Dead v13.2.2 v13.2.1 v17).bind fun v18 => (ref08_Dead v13.2.2 v13.2.1 v17).bind fun v19 => bif decide (v18 = v19) then ((law08_awake).bind fun v20 => some (v20 : Bool)) else (some (false : Bool))
noncomputable def law08_BlueprintDead (v1 : List Int) : Option (Bool) :=
  (mk_New v1).bind fun v12 => (mk_Tape_Program v12 0 6 6).bind fun v13 => (mk_Tape_State v12 v13.1 (v13.2.2.length : Int)).bind fun v14 => (mk_Tape_One v12 v14.1 10).bind fun v21 => bif v21.1 then ((mk_Tape_Range v12 v21.2 (-2) 2).bind fun v22 => chk ((v14.2.length + 1) * 8 ≤ 140737488355328) (law08_BlueprintDead_j0 v13 (v14.2 ++ [v22.1]))) else (law08_BlueprintDead_j0 v13 v14.2)
theorem law08_BlueprintDead_ok (v1 : List Int) (r : Bool) (hx : law08_BlueprintDead v1 = some r) :
    ACalls Try.prog 4 [.d (.sl (List.map iD v1))] [] (.d (.bool r)) [] := by
  refine ACalls.of_sem (n := 32) 0 [2] (fn := Try.f4) Try.func4 rfl rfl (.one rfl) rfl (by simp) (by intro i; simp only [hget]; (repeat' split) <;> simp <;> omega) ?_
  unfold law08_BlueprintDead at hx
  refine Walk.seq (Walk.region' rfl fun K hK => ?_)
  simp only [go_sem, seval]
  refine hK _ ?_
  clear hK K
  refine Walk.seq (Walk.region' rfl fun K hK => ?_)
  obtain ⟨v12, h17, hx⟩ := bind_elim hx
  have w18 := ((mk_New_ok v1 _ h17).swap 2000 1005)
  simp only [renE, renL, AV.ren, AV.rens, AObj.ren, swp, Option.map_some, reduceIte, Nat.reduceEqDiff] at w18
  simp only [go_sem, seval]
  refine VCl.sub [] [] rfl (by simp only [go_sem, seval, AV.viewXs, AV.viewX, avD]; try simp) (w18) (by simp) (by simp) (by simp) (by simp) (by simp) (by simp) (by simp) (by simp) (by simp) (by simp) ?_
  simp only [go_sem, seval]
  refine hK _ ?_
  clear hK K
  refine Walk.weaken ⟨[(3, .box 1005 0)], [(1005, some (.box [.d (.sl (List.map iD v12)), .d (.int .i64 0)]))]⟩ (by simp) (by simp) ?_
  refine Walk.seq (Walk.region' rfl fun K hK => ?_)
  obtain ⟨v13, h19, hx⟩ := bind_elim hx
  have w20 := ((((mk_Tape_Program_ok v12 0 6 6 _ h19).swap 0 1005).swap 2001 1006).swap 2002 1007)
  simp only [renE, renL, AV.ren, AV.rens, AObj.ren, swp, Option.map_some, reduceIte, Nat.reduceEqDiff] at w20
  simp only [go_sem, seval]
  refine VCl.sub [(1005, some (.box [.d (.sl (List.map iD v12)), .d (.int .i64 0)]))] [] rfl (by simp only [go_sem, seval, AV.viewXs, AV.viewX, avD]; try simp) (w20) (by simp) (by simp) (by simp) (by simp) (by simp) (by simp) (by simp) (by simp) (by simp) (by simp) ?_
  simp only [go_sem, seval]
  refine hK _ ?_
  clear hK K
  refine Walk.weaken ⟨[(3, .box 1005 0), (4, .box 4 0)], [(4, some (.box [.arr 1006 0 v13.2.2.length, .arr 1007 0 v13.2.1.length])), (1005, some (.box [.d (.sl (List.map iD v12)), .d (.int .i64 v13.1)])), (1006, some (.arr 3 1 (List.map iD v13.2.2))), (1007, some (.arr 32 3 (List.map Row.D v13.2.1)))]⟩ (by simp) (by simp) ?_
  refine Walk.seq (Walk.region' rfl fun K hK => ?_)
  obtain ⟨v14, h21, hx⟩ := bind_elim hx
  have w22 := (((mk_Tape_State_ok v12 v13.1 (v13.2.2.length : Int) _ h21).swap 0 1005).swap 2000 1008)
  simp only [renE, renL, AV.ren, AV.rens, AObj.ren, swp, Option.map_some, reduceIte, Nat.reduceEqDiff] at w22
  simp only [go_sem, seval]
  refine VCl.sub [(1005, some (.box [.d (.sl (List.map iD v12)), .d (.int .i64 v13.1)]))] [] rfl (by simp only [go_sem, seval, AV.viewXs, AV.viewX, avD]; try simp) (w22) (by simp) (by simp) (by simp) (by simp) (by simp) (by simp) (by simp) (by simp) (by simp) (by simp) ?_
  simp only [go_sem, seval]
  refine hK _ ?_
  clear hK K
  refine Walk.weaken ⟨[(3, .box 1005 0), (4, .box 4 0), (5, .arr 1008 0 v14.2.length)], [(4, some (.box [.arr 1006 0 v13.2.2.length, .arr 1007 0 v13.2.1.length])), (1005, some (.box [.d (.sl (List.map iD v12)), .d (.int .i64 v14.1)])), (1006, some (.arr 3 1 (List.map iD v13.2.2))), (1007, some (.arr 32 3 (List.map Row.D v13.2.1))), (1008, some (.arr 3 1 (List.map iD v14.2)))]⟩ (by simp) (by simp) ?_
  refine Walk.seq (Walk.join (G := List Int) (fun g => ⟨[(4, .box 4 0), (5, .arr 1008 0 g.length)], [(4, some (.box [.arr 1006 0 v13.2.2.length, .arr 1007 0 v13.2.1.length])), (1006, some (.arr 3 1 (List.map iD v13.2.2))), (1007, some (.arr 32 3 (List.map Row.D v13.2.1))), (1008, some (.arr 3 1 (List.map iD g)))]⟩) (fun g => law08_BlueprintDead_j0 v13 g) hx (fun v17 hx => ?_) (fun fin29 => ?_))
  · unfold law08_BlueprintDead_j0 at hx
    try dsimp only at hx ⊢
    refine Walk.seq (Walk.drawn' rfl mixed fun K hK => ?_)
    obtain ⟨v18, h30, hx⟩ := bind_elim hx
    simp only [go_sem, seval]
    refine VCl.lent rfl (by simp only [go_sem, seval]; try simp) (blueprint_Dead_ok v13.2.2 v13.2.1 v17 _ h30) (by simp) (by simp) (by simp) (by simp) (by simp) (by simp) (by simp) ?_
    obtain ⟨v19, h31, hx⟩ := bind_elim hx
    simp only [go_sem, seval]
    refine VCl.lent rfl (by simp only [go_sem, seval]; try simp) (ref08_Dead_ok v13.2.2 v13.2.1 v17 _ h31) (by simp) (by simp) (by simp) (by simp) (by simp) (by simp) (by simp) ?_
    simp only [go_sem, seval]
    refine VGdO hx (fun g32 hx => ?_) (fun g32 hx => ?_)
    · obtain ⟨v20, h33, hx⟩ := bind_elim hx
      simp only [go_sem, seval, g32]
      refine VCl.pure rfl (by simp only [go_sem, seval, g32]; try simp) (law08_awake_ok _ h33) (by simp only [go_sem, seval, g32]; try simp) (by simp only [go_sem, seval, g32]; try simp) (by simp only [go_sem, seval, g32]; try simp) (by simp only [go_sem, seval, g32]; try simp) (by simp only [go_sem, seval, g32]; try simp) (by simp only [go_sem, seval, g32]; try simp) ?_
      simp only [go_sem, seval, g32]
      refine hK _ _ (by kernel_rfl) (by simp [g32]) ?_
      clear hK K
      obtain rfl := Option.some.inj hx
      exact Walk.ret ⟨by simp [g32], by simp [g32]⟩
    · simp only [go_sem, seval, g32]
      refine hK _ _ (by kernel_rfl) (by simp [g32]) ?_
      clear hK K
      obtain rfl := Option.some.inj hx
      exact Walk.ret ⟨by simp [g32], by simp [g32]⟩
  · refine Walk.seq (Walk.region' rfl fun K hK => ?_)
    obtain ⟨v21, h34, hx⟩ := bind_elim hx
    have w35 := ((mk_Tape_One_ok v12 v14.1 10 _ h34).swap 0 1005)
    simp only [renE, renL, AV.ren, AV.rens, AObj.ren, swp, Option.map_some, reduceIte, Nat.reduceEqDiff] at w35
    simp only [go_sem, seval]
    refine VCl.sub [(1005, some (.box [.d (.sl (List.map iD v12)), .d (.int .i64 v14.1)]))] [] rfl (by simp only [go_sem, seval, AV.viewXs, AV.viewX, avD]; try simp) (w35) (by simp) (by simp) (by simp) (by simp) (by simp) (by simp) (by simp) (by simp) (by simp) (by simp) ?_
    simp only [go_sem, seval]
    refine hK _ ?_
    clear hK K
    refine Walk.weaken ⟨[(3, .box 1005 0), (4, .box 4 0), (5, .arr 1008 0 v14.2.length), (16, .d (.bool v21.1))], [(4, some (.box [.arr 1006 0 v13.2.2.length, .arr 1007 0 v13.2.1.length])), (1005, some (.box [.d (.sl (List.map iD v12)), .d (.int .i64 v21.2)])), (1006, some (.arr 3 1 (List.map iD v13.2.2))), (1007, some (.arr 32 3 (List.map Row.D v13.2.1))), (1008, some (.arr 3 1 (List.map iD v14.2)))]⟩ (by simp) (by simp) ?_
    refine Walk.condO rfl hx (fun c36 hx => ?_) (fun c36 hx => ?_)
    · refine Walk.region' rfl fun K hK => ?_
      obtain ⟨v22, h37, hx⟩ := bind_elim hx
      have w38 := ((mk_Tape_Range_ok v12 v21.2 (-2) 2 _ h37).swap 0 1005)
      simp only [renE, renL, AV.ren, AV.rens, AObj.ren, swp, Option.map_some, reduceIte, Nat.reduceEqDiff] at w38
      simp only [go_sem, seval, c36]
      refine VCl.sub [(1005, some (.box [.d (.sl (List.map iD v12)), .d (.int .i64 v21.2)]))] [] rfl (by simp only [go_sem, seval, AV.viewXs, AV.viewX, avD, c36]; try simp) (w38) (by simp [c36]) (by simp [c36]) (by simp [c36]) (by simp [c36]) (by simp [c36]) (by simp [c36]) (by simp [c36]) (by simp [c36]) (by simp [c36]) (by simp [c36]) ?_
      obtain ⟨k39, hx⟩ := chk_elim hx
      simp only [go_sem, seval, c36, k39]
      repeat refine And.intro (by first | omega | (simp; done) | (simp; omega)) ?_
      refine hK _ ?_
      clear hK K
      refine Walk.weaken ⟨[(4, .box 4 0), (5, .arr 1008 0 ((v14.2 ++ [v22.1]).length))], [(4, some (.box [.arr 1006 0 v13.2.2.length, .arr 1007 0 v13.2.1.length])), (1006, some (.arr 3 1 (List.map iD v13.2.2))), (1007, some (.arr 32 3 (List.map Row.D v13.2.1))), (1008, some (.arr 3 1 (List.map iD (v14.2 ++ [v22.1]))))]⟩ (by simp [c36, k39]) (by simp [c36, k39]) ?_
      exact Walk.weaken _ (by simp [c36, k39]) (by simp [c36, k39]) (fin29 (v14.2 ++ [v22.1]) hx)
    · refine Walk.skip ?_
      exact Walk.weaken _ (by simp [c36]) (by simp [c36]) (fin29 v14.2 hx)
noncomputable def ref06_Has_l0 (v1 : List Int) (v2 : Int) (v9 : Int) : Option ((Int) ⊕ (Bool)) :=
  bif decide (v9 < (v1.length : Int)) then ((rd v1 v9).bind fun v11 => bif decide (v11 = v2) then (exitO (some (true : Bool))) else (contO (IntKind.i64.wrap (v9 + 1) : Int))) else (exitO (some (false : Bool)))
noncomputable def ref06_Has (v1 : List Int) (v2 : Int) : Option (Bool) :=
  iter (fun g : Int => ref06_Has_l0 v1 v2 g) 0
theorem ref06_Has_ok (v1 : List Int) (v2 : Int) (r : Bool) (hx : ref06_Has v1 v2 = some r) :
    ACalls Try.prog 22 [.d (.sl (List.map iD v1)), .d (.int .i64 v2)] [] (.d (.bool r)) [] := by
  refine ACalls.of_sem (n := 18) 0 [4] (fn := Try.f22) Try.func22 rfl rfl (.one rfl) rfl (by simp) (by intro i; simp only [hget]; (repeat' split) <;> simp <;> omega) ?_
  unfold ref06_Has at hx
  refine Walk.seq (Walk.region' rfl fun K hK => ?_)
  simp only [go_sem, seval]
  refine hK _ ?_
  clear hK K
  refine Walk.seq (Walk.seq (Walk.region' rfl fun K hK => ?_))
  simp only [go_sem, seval]
  refine hK _ ?_
  clear hK K
  refine Walk.block (Walk.loop ?_)
  refine Walk.weaken ⟨[(0, .d (.sl (List.map iD v1))), (1, .d (.int .i64 v2)), (5, .d (.int .i64 0))], []⟩ (by simp) (by simp) ?_
  refine Walk.iter (σ := Int) (fun g => ⟨[(0, .d (.sl (List.map iD v1))), (1, .d (.int .i64 v2)), (5, .d (.int .i64 g))], []⟩) (fun g : Int => ref06_Has_l0 v1 v2 g) _ (fun v9 y59 hx ih45 hr46 => ?_) 0 hx
  unfold ref06_Has_l0 at hx
  try dsimp only at hx ⊢
  refine Walk.seq (Walk.seq (Walk.region' rfl fun K hK => ?_))
  simp only [go_sem, seval]
  refine hK _ ?_
  clear hK K
  refine Walk.condO rfl hx (fun c49 hx => ?_) (fun c49 hx => ?_)
  · refine Walk.skip (Walk.seq (Walk.block (Walk.seq (Walk.region' rfl fun K hK => ?_))))
    obtain ⟨v11, r50, a51, b52, c53, hx⟩ := rd_elim hx
    simp only [go_sem, seval, c49, a51, b52, c53]
    repeat refine And.intro (by first | omega | (simp; done) | (simp; omega)) ?_
    refine hK _ ?_
    clear hK K
    refine Walk.condO rfl hx (fun c54 hx => ?_) (fun c54 hx => ?_)
    · refine Walk.seq (Walk.region' rfl fun K hK => ?_)
      simp only [go_sem, seval, c49, a51, b52, c53, c54]
      refine hK _ ?_
      clear hK K
      obtain ⟨z55, e56, hx⟩ := exit_elim hx
      rw [hr46 z55 e56] at hx
      obtain rfl := Option.some.inj hx
      exact Walk.ret ⟨by simp [c49, a51, b52, c53, c54], by simp [c49, a51, b52, c53, c54]⟩
    · refine Walk.skip (Walk.inBlock (Walk.region' rfl fun K hK => ?_))
      simp only [go_sem, seval, c49, a51, b52, c53, c54]
      refine hK _ ?_
      clear hK K
      exact Walk.weaken _ (by simp [c49, a51, b52, c53, c54]) (by simp [c49, a51, b52, c53, c54]) (ih45 _ (cont_elim hx))
  · refine Walk.exit rfl ?_
    obtain ⟨z57, e58, hx⟩ := exit_elim hx
    rw [hr46 z57 e58] at hx
    refine Walk.seq (Walk.region' rfl fun K hK => ?_)
    simp only [go_sem, seval, c49]
    refine hK _ ?_
    clear hK K
    obtain rfl := Option.some.inj hx
    exact Walk.ret ⟨by simp [c49], by simp [c49]⟩
noncomputable def ref08_Subset_l0 (v1 : Int) (v2 : Int) (v6 : List Int) (v7 : Int) : Option ((List Int × Int) ⊕ (List Int)) :=
  bif decide (v7 < v1) then (chk (0 ≤ (IntKind.u64.wrap (v7))) (bif decide (((Go.bits .and .i64 ((v2 / 2 ^ (min (IntKind.u64.wrap (v7)).toNat 64))) 1)) = 1) then (chk ((v6.length + 1) * 8 ≤ 140737488355328) (contO (((v6 ++ [v7]), IntKind.i64.wrap (v7 + 1)) : List Int × Int))) else (contO ((v6, IntKind.i64.wrap (v7 + 1)) : List Int × Int)))) else (exitO (some (v6 : List Int)))
noncomputable def ref08_Subset (v1 : Int) (v2 : Int) : Option (List Int) :=
  iter (fun g : List Int × Int => ref08_Subset_l0 v1 v2 g.1 g.2) ([], 0)
theorem ref08_Subset_ok (v1 : Int) (v2 : Int) (r : List Int) (hx : ref08_Subset v1 v2 = some r) :
    ACalls Try.prog 23 [.d (.int .i64 v1), .d (.int .i64 v2)] [] (.arr 2000 0 r.length) [(2000, some (.arr 3 1 (List.map iD r)))] := by
  refine ACalls.of_sem (n := 23) 0 [4] (fn := Try.f23) Try.func23 rfl rfl (.one rfl) rfl (by simp) (by intro i; simp only [hget]; (repeat' split) <;> simp <;> omega) ?_
  unfold ref08_Subset at hx
  refine Walk.seq (Walk.region' rfl fun K hK => ?_)
  simp only [go_sem, seval]
  refine hK _ ?_
  clear hK K
  refine Walk.seq (Walk.region' rfl fun K hK => ?_)
  simp only [go_sem, seval]
  refine hK _ ?_
  clear hK K
  refine Walk.seq (Walk.seq (Walk.region' rfl fun K hK => ?_))
  simp only [go_sem, seval]
  refine hK _ ?_
  clear hK K
  refine Walk.block (Walk.loop ?_)
  refine Walk.weaken ⟨[(0, .d (.int .i64 v1)), (1, .d (.int .i64 v2)), (5, .nils), (6, .d (.int .i64 0))], []⟩ (by simp) (by simp) ?_
  refine Walk.up 1002 3 1 [(0, .d (.int .i64 v1)), (1, .d (.int .i64 v2)), (5, .arr 1002 0 0), (6, .d (.int .i64 0))] [] (by simp) (by simp) (by omega) (by simp) (by simp) (by simp) ?_
  refine Walk.weaken ⟨[(0, .d (.int .i64 v1)), (1, .d (.int .i64 v2)), (5, .arr 1002 0 0), (6, .d (.int .i64 0))], [(1002, some (.arr 3 1 (List.map iD [])))]⟩ (by simp) (by simp) ?_
  refine Walk.iter (σ := List Int × Int) (fun g => ⟨[(0, .d (.int .i64 v1)), (1, .d (.int .i64 v2)), (5, .arr 1002 0 g.1.length), (6, .d (.int .i64 g.2))], [(1002, some (.arr 3 1 (List.map iD g.1)))]⟩) (fun g : List Int × Int => ref08_Subset_l0 v1 v2 g.1 g.2) _ (fun g y43 hx ih33 hr34 => ?_) ([], 0) hx
  obtain ⟨v6, v7⟩ := g
  unfold ref08_Subset_l0 at hx
  try dsimp only at hx ⊢
  refine Walk.seq (Walk.seq (Walk.region' rfl fun K hK => ?_))
  simp only [go_sem, seval]
  refine hK _ ?_
  clear hK K
  refine Walk.condO rfl hx (fun c37 hx => ?_) (fun c37 hx => ?_)
  · refine Walk.skip (Walk.seq (Walk.block (Walk.seq (Walk.region' rfl fun K hK => ?_))))
    obtain ⟨k38, hx⟩ := chk_elim hx
    simp only [go_sem, seval, c37, k38]
    repeat refine And.intro (by first | omega | (simp; done) | (simp; omega)) ?_
    refine hK _ ?_
    clear hK K
    refine Walk.condO rfl hx (fun c39 hx => ?_) (fun c39 hx => ?_)
    · refine Walk.region' rfl fun K hK => ?_
      obtain ⟨k40, hx⟩ := chk_elim hx
      simp only [go_sem, seval, c37, k38, c39, k40]
      repeat refine And.intro (by first | omega | (simp; done) | (simp; omega)) ?_
      refine hK _ ?_
      clear hK K
      refine Walk.weaken ⟨[(0, .d (.int .i64 v1)), (1, .d (.int .i64 v2)), (5, .arr 1002 0 ((v6 ++ [v7]).length)), (6, .d (.int .i64 v7))], [(1002, some (.arr 3 1 (List.map iD (v6 ++ [v7]))))]⟩ (by simp [c37, k38, c39, k40]) (by simp [c37, k38, c39, k40]) ?_
      refine Walk.inBlock (Walk.region' rfl fun K hK => ?_)
      simp only [go_sem, seval, c37, k38, c39, k40]
      refine hK _ ?_
      clear hK K
      exact Walk.weaken _ (by simp [c37, k38, c39, k40]) (by simp [c37, k38, c39, k40]) (ih33 _ (cont_elim hx))
    · refine Walk.skip (Walk.inBlock (Walk.region' rfl fun K hK => ?_))
      simp only [go_sem, seval, c37, k38, c39]
      refine hK _ ?_
      clear hK K
      exact Walk.weaken _ (by simp [c37, k38, c39]) (by simp [c37, k38, c39]) (ih33 _ (cont_elim hx))
  · refine Walk.exit rfl ?_
    obtain ⟨z41, e42, hx⟩ := exit_elim hx
    rw [hr34 z41 e42] at hx
    refine Walk.seq (Walk.region' rfl fun K hK => ?_)
    simp only [go_sem, seval, c37]
    refine hK _ ?_
    clear hK K
    refine Walk.weaken ⟨[(4, .arr 1002 0 v6.length)], [(1002, some (.arr 3 1 (List.map iD v6)))]⟩ (by simp [c37]) (by simp [c37]) ?_
    refine Walk.rename 1002 2000 (by omega) (by omega) (by simp) (by simp) ?_
    simp only [renE, renL, AV.ren, AV.rens, AObj.ren, swp, Option.map_some, reduceIte, Nat.reduceEqDiff]
    obtain rfl := Option.some.inj hx
    exact Walk.ret ⟨by simp [c37], by simp [c37]⟩
end Go.AX
