import Derived.Test.YtmggphnhfegffaaAxD
import Derived.Laws.Entries
import Derived.Laws.Slices
import Derived.Laws.Strings
set_option linter.unusedVariables false
set_option linter.unusedSimpArgs false
namespace Go.AX

inductive TK where
  | int (k : IntKind) | bool | str | struct (fs : List (Nat × Nat)) | slice (e : Nat) | ptr (e : Nat) | array (n e : Nat) | other
  deriving Inhabited, DecidableEq

structure TI where
  k : TK
  size : Nat
  bytes : Nat
  zero : List AV
  deriving Inhabited

def zv : Value → AV
  | .int k n => if k.min ≤ n ∧ n ≤ k.max then .d (.int k n) else .any
  | .bool b => .d (.bool b)
  | .string s => if s.data.toList.length ≤ LB then .d (.str s.data.toList) else .any
  | .slice none 0 0 => .nils
  | .pointer none => .nilp
  | _ => .any

def tk (P : Program) (t : Nat) : TK :=
  match P.underlying t with
  | some (.int k) => .int k
  | some .bool => .bool
  | some .string => .str
  | some (.struct fs) => .struct (fs.toList.map fun f => (f.offset, f.type))
  | some (.slice e) => .slice e
  | some (.pointer e) => .ptr e
  | some (.array n e) => .array n e
  | _ => .other

def mkTI (P : Program) (t : Nat) : TI :=
  match P.info? t with
  | none => ⟨.other, 0, 0, []⟩
  | some i => ⟨tk P t, i.size, i.bytes, match i.zero with | some z => z.cells.toList.map zv | none => []⟩

theorem tk_of {P : Program} {t : Nat} {k : TK} (h : (mkTI P t).k = k) (hk : k ≠ .other) : tk P t = k := by
  unfold mkTI at h
  split at h
  · exact absurd h.symm hk
  · exact h

theorem und_slice {P : Program} {t e : Nat} (h : (mkTI P t).k = .slice e) : P.underlying t = some (.slice e) := by
  have := tk_of h (by simp)
  unfold tk at this
  split at this <;> simp_all

theorem und_str {P : Program} {t : Nat} (h : (mkTI P t).k = .str) : P.underlying t = some .string := by
  have := tk_of h (by simp)
  unfold tk at this
  split at this <;> simp_all

theorem und_int {P : Program} {t : Nat} {k : IntKind} (h : (mkTI P t).k = .int k) : P.underlying t = some (.int k) := by
  have := tk_of h (by simp)
  unfold tk at this
  split at this <;> simp_all

theorem und_bool {P : Program} {t : Nat} (h : (mkTI P t).k = .bool) : P.underlying t = some .bool := by
  have := tk_of h (by simp)
  unfold tk at this
  split at this <;> simp_all

theorem und_struct {P : Program} {t : Nat} {fs : List (Nat × Nat)} (h : (mkTI P t).k = .struct fs) :
    ∃ gs, P.underlying t = some (.struct gs) ∧ fs = gs.toList.map fun f => (f.offset, f.type) := by
  have := tk_of h (by simp)
  unfold tk at this
  split at this <;> simp_all

theorem und_array {P : Program} {t n e : Nat} (h : (mkTI P t).k = .array n e) : P.underlying t = some (.array n e) := by
  have := tk_of h (by simp)
  unfold tk at this
  split at this <;> simp_all

theorem info_of {P : Program} {t : Nat} (h : (mkTI P t).size ≠ 0) : ∃ i, P.info? t = some i ∧ i.size = (mkTI P t).size ∧ i.bytes = (mkTI P t).bytes ∧
    (mkTI P t).zero = (match i.zero with | some z => z.cells.toList.map zv | none => []) := by
  unfold mkTI at h ⊢
  split at h
  · simp at h
  · rename_i i hi
    exact ⟨i, hi, rfl, rfl, rfl⟩

def TI.isAgg (t : TI) : Bool := match t.k with | .struct _ => true | .array _ _ => true | _ => false

theorem run_isAgg {P : Program} {t : Nat} (h : (mkTI P t).k ≠ .other) (w : World) : (Go.isAgg t).run P w = .ok (mkTI P t).isAgg w := by
  have hk := tk_of (P := P) (t := t) rfl h
  unfold Go.isAgg TI.isAgg
  rw [← hk]
  rw [← hk] at h
  unfold tk at h ⊢
  cases hu : P.underlying t with
  | none => simp [hu] at h
  | some d => cases d <;> simp [hu, run_underlying hu] at h ⊢

theorem run_sizeOf {P : Program} {t : Nat} (h : (mkTI P t).size ≠ 0) (w : World) : (Go.sizeOf t).run P w = .ok (mkTI P t).size w := by
  obtain ⟨i, hi, hs, _⟩ := info_of h
  simp [Go.sizeOf, typeInfo, hi, hs]

theorem zv_rep {w A β H} (v : Value) : RepV w A β H (zv v) v := by
  unfold zv
  split
  · split
    · rename_i h; simp only [RepV, RepD]; exact ⟨by first | rfl | trivial, trivial⟩
    · simp only [RepV]
  · simp only [RepV, RepD]
  · split
    · rename_i s h; simp only [RepV, RepD]; exact ⟨by simp, trivial⟩
    · simp only [RepV]
  · simp only [RepV]; exact ⟨_, rfl⟩
  · simp only [RepV]
  · simp only [RepV]

def evalA (E : EF) : Operand → AV
  | .tmp t => E t
  | .const v => zv v
  | .global _ => .any
  | .func f => .fn f []

theorem CfgF.eval {n A β E H a w} (h : CfgF n A β E H a w) (x : Operand) : RepV w A β H (evalA E x) (a.eval x) := by
  cases x with
  | tmp t => exact h.env t
  | const v => exact zv_rep v
  | global g => simp only [evalA, RepV]
  | func f => simp only [evalA, RepV, Act.eval]; exact ⟨#[], rfl, by simp [RepVs]⟩

abbrev HL := List (Nat × Option AObj)
def updF (H : HF) : HL → HF
  | [] => H
  | (j, o) :: r => fun i => if i = j then o else updF H r i

/-- What one operation does, on whatever world fits. -/
def OSem (P : Program) (n : Nat) (o : Oper) (E : EF) (H : HF) (r : AV) (u : HL) : Prop :=
  ∀ A β a w, CfgF n A β E H a w → o.wp P a w (fun a' w' => ∃ A' β', CfgF n A' β' (putE E o.dst r) (updF H u) a' w' ∧ Trans w A β H w' A' β' (updF H u)) (fun _ _ _ => False)

theorem OSem.pure {P n o E H r} (hd : ∀ d, o.dst = some d → d < n)
    (h : ∀ A β a w, CfgF n A β E H a w → ∃ v, (execOp a.eval o).run P w = .ok (.value v) w ∧ RepV w A β H r v) : OSem P n o E H r [] := by
  intro A β a w hc
  obtain ⟨v, hv, hr⟩ := h A β a w hc
  simp only [Oper.wp, hv, Oper.upon]
  exact ⟨A, β, hc.put hd hr, Trans.refl _ _ _ _⟩

structure Out where
  pre : Prop
  res : AV
  upd : HL

def fail : Out := ⟨False, .any, []⟩
def ok (r : AV) : Out := ⟨True, r, []⟩

/-! ### operations that read -/
def aPick (c a b : AV) : Out := match c with | .d (.bool t) => ⟨True, (bif t then a else b), []⟩ | _ => fail

theorem sem_move {P n d x t p e g E H} (hd : ∀ i, d = some i → i < n) : OSem P n ⟨d, .move x, t, p, e, g⟩ E H (evalA E x) [] :=
  OSem.pure hd fun A β a w h => ⟨a.eval x, by simp [execOp], h.eval x⟩
theorem sem_assign {P n d x t p e g E H} (hd : ∀ i, d = some i → i < n) : OSem P n ⟨d, .assign x, t, p, e, g⟩ E H (evalA E x) [] :=
  OSem.pure hd fun A β a w h => ⟨a.eval x, by simp [execOp], h.eval x⟩
theorem sem_pick {P n d c x y t p e g E H} (hd : ∀ i, d = some i → i < n) (h : (aPick (evalA E c) (evalA E x) (evalA E y)).pre) :
    OSem P n ⟨d, .pick c x y, t, p, e, g⟩ E H (aPick (evalA E c) (evalA E x) (evalA E y)).res [] :=
  OSem.pure hd fun A β a w hc => by
    have h1 := hc.eval c
    have h2 := hc.eval x
    have h3 := hc.eval y
    unfold aPick at h ⊢
    split at h
    · rename_i b hb
      rw [hb] at h1
      simp only [RepV, RepD] at h1
      simp only [execOp, h1, asBool, Sem.run_bind, Sem.run_pure, Result.andThen_ok]
      cases b <;> simp [h2, h3]
    · exact h.elim

def aBin (P : Program) (op : BinOp) (t : Nat) (x y : AV) : Out :=
  match x, y with
  | .d (.int k a), .d (.int k' b) =>
    match op with
    | .add => ⟨k = k', .d (.int k (k.wrap (a + b))), []⟩
    | .sub => ⟨k = k', .d (.int k (k.wrap (a - b))), []⟩
    | .mul => ⟨k = k', .d (.int k (k.wrap (a * b))), []⟩
    | .quo => ⟨k = k' ∧ b ≠ 0, .d (.int k (k.wrap (a.tdiv b))), []⟩
    | .rem => ⟨k = k' ∧ b ≠ 0, .d (.int k (a.tmod b)), []⟩
    | .and => ⟨k = k', .d (.int k (Go.bits .and k a b)), []⟩
    | .or => ⟨k = k', .d (.int k (Go.bits .or k a b)), []⟩
    | .xor => ⟨k = k', .d (.int k (Go.bits .xor k a b)), []⟩
    | .andNot => ⟨k = k', .d (.int k (Go.bits .andNot k a b)), []⟩
    | .shl => ⟨0 ≤ b, .d (.int k (k.wrap (a * 2 ^ (min b.toNat k.bits)))), []⟩
    | .shr => ⟨0 ≤ b, .d (.int k (a / 2 ^ (min b.toNat k.bits))), []⟩
    | .eql => ⟨k = k', .d (.bool (decide (a = b))), []⟩
    | .neq => ⟨k = k', .d (.bool (decide (a ≠ b))), []⟩
    | .lss => ⟨k = k', .d (.bool (decide (a < b))), []⟩
    | .leq => ⟨k = k', .d (.bool (decide (a ≤ b))), []⟩
    | .gtr => ⟨k = k', .d (.bool (decide (a > b))), []⟩
    | .geq => ⟨k = k', .d (.bool (decide (a ≥ b))), []⟩
  | .d (.str a), .d (.str b) =>
    match op with
    | .add => ⟨a.length + b.length ≤ LB, .d (.str (a ++ b)), []⟩
    | .eql => ⟨True, .d (.bool (decide (a = b))), []⟩
    | .neq => ⟨True, .d (.bool (decide (a ≠ b))), []⟩
    | .lss => ⟨True, .d (.bool (Op.bytesLess a b)), []⟩
    | .leq => ⟨True, .d (.bool (Op.bytesLess a b || decide (a = b))), []⟩
    | .gtr => ⟨True, .d (.bool (!(Op.bytesLess a b || decide (a = b)))), []⟩
    | .geq => ⟨True, .d (.bool (!Op.bytesLess a b)), []⟩
    | _ => fail
  | .d (.bool a), .d (.bool b) =>
    match op with
    | .eql => ⟨(mkTI P t).k = .bool, .d (.bool (a == b)), []⟩
    | .neq => ⟨(mkTI P t).k = .bool, .d (.bool (!(a == b))), []⟩
    | _ => fail
  | _, _ => fail

theorem wrap_fits (k : IntKind) (n : Int) : fits k (k.wrap n) := by
  trivial

theorem two_pow_pos' (n : Nat) : (0 : Int) < 2 ^ n := Int.pow_pos (by decide)

theorem tmod_fits {k : IntKind} {a b : Int} (h : fits k a) : fits k (a.tmod b) := by
  unfold fits at *
  have h1 : k.min ≤ 0 := by cases k <;> decide
  have h2 : 0 ≤ k.max := by cases k <;> decide
  have h3 : (a.tmod b).natAbs ≤ a.natAbs := by rw [Int.natAbs_tmod]; exact Nat.mod_le _ _
  rcases Int.le_total 0 a with h0 | h0
  · have := Int.tmod_nonneg b h0
    omega
  · have h4 : a.tmod b = -((-a).tmod b) := by rw [Int.neg_tmod]; omega
    have := Int.tmod_nonneg b (show 0 ≤ -a by omega)
    omega

theorem ediv_fits {k : IntKind} {a : Int} (n : Nat) (h : fits k a) : fits k (a / 2 ^ n) := by
  unfold fits at *
  have h1 : k.min ≤ 0 := by cases k <;> decide
  have h2 : 0 ≤ k.max := by cases k <;> decide
  have hp := two_pow_pos' n
  rcases Int.le_total 0 a with h0 | h0
  · have := Int.ediv_nonneg h0 (Int.le_of_lt hp)
    have := Int.ediv_le_self (2 ^ n : Int) h0
    omega
  · have h3 : a / 2 ^ n ≤ 0 := Int.ediv_nonpos_of_nonpos_of_neg h0 (by omega) |> fun h => by omega
    have h4 : a ≤ a / 2 ^ n := by
      rw [Int.le_ediv_iff_mul_le hp]
      have : (1 : Int) ≤ 2 ^ n := by omega
      have := Int.mul_le_mul_of_nonpos_left h0 this
      omega
    omega

theorem bits_fits (op : BinOp) (k : IntKind) (a b : Int) : fits k (Go.bits op k a b) := by
  unfold Go.bits
  split <;> first | exact wrap_fits _ _ | skip

theorem run_binOp_op {P : Program} {ρ : Operand → Value} {w : World} {d op t x y ty tr p e g} {vx vy v : Value} (hx : ρ x = vx) (hy : ρ y = vy)
    (hg : eqGuard op t x y vx vy = pure ()) (h : (binOp op t vx vy).run P w = .ok v w) :
    (execOp ρ ⟨d, .binOp op t x y ty, tr, p, e, g⟩).run P w = .ok (.value v) w := by
  simp [execOp, hx, hy, hg, h]

theorem beq_dec {α : Type} [BEq α] [LawfulBEq α] [DecidableEq α] (a b : α) : (a == b) = decide (a = b) := by
  rw [Bool.eq_iff_iff]; simp
theorem bne_dec {α : Type} [BEq α] [LawfulBEq α] [DecidableEq α] (a b : α) : (a != b) = decide (a ≠ b) := by
  rw [Bool.eq_iff_iff]; simp

theorem run_equalIn_bool {P : Program} {w : World} {t : Nat} (h : P.underlying t = some .bool) (d : Nat) (a b : Bool) : (Op.equalIn (d + 1) t (.bool a) (.bool b)).run P w = .ok (a == b) w := by
  simp [Op.equalIn, run_underlying h]

theorem aBin_int {P : Program} {w A β H} {op : BinOp} {t k k' a b} (h : (aBin P op t (.d (.int k a)) (.d (.int k' b))).pre) (ha : fits k a) (hb : fits k' b) :
    ∃ v, (binOp op t (.int k a) (.int k' b)).run P w = .ok v w ∧ RepV w A β H (aBin P op t (.d (.int k a)) (.d (.int k' b))).res v := by
  cases op <;> simp only [aBin] at h ⊢
  case add => subst h; exact ⟨_, by rw [binOp_add]; rfl, by simp only [RepV, RepD, true_and]; exact wrap_fits _ _⟩
  case sub => subst h; exact ⟨_, by rw [binOp_sub]; rfl, by simp only [RepV, RepD, true_and]; exact wrap_fits _ _⟩
  case mul => subst h; exact ⟨_, by rw [binOp_mul]; rfl, by simp only [RepV, RepD, true_and]; exact wrap_fits _ _⟩
  case quo => obtain ⟨rfl, hb0⟩ := h; exact ⟨_, by rw [binOp_quo]; simp [Op.intDiv, hb0]; rfl, by simp only [RepV, RepD, true_and]; exact wrap_fits _ _⟩
  case rem => obtain ⟨rfl, hb0⟩ := h; exact ⟨_, by rw [binOp_rem]; simp [Op.intDiv, hb0]; rfl, by simp only [RepV, RepD, true_and]; exact tmod_fits ha⟩
  case and => subst h; exact ⟨_, by rw [binOp_and, intBits_and]; rfl, by simp only [RepV, RepD, true_and]; exact bits_fits _ _ _ _⟩
  case or => subst h; exact ⟨_, by rw [binOp_or, intBits_or]; rfl, by simp only [RepV, RepD, true_and]; exact bits_fits _ _ _ _⟩
  case xor => subst h; exact ⟨_, by rw [binOp_xor, intBits_xor]; rfl, by simp only [RepV, RepD, true_and]; exact bits_fits _ _ _ _⟩
  case andNot => subst h; exact ⟨_, by rw [binOp_andNot, intBits_andNot]; rfl, by simp only [RepV, RepD, true_and]; exact bits_fits _ _ _ _⟩
  case shl =>
    have h' : ¬ b < 0 := by omega
    exact ⟨_, by rw [binOp_shl]; simp only [Op.shift, h', if_false]; rfl, by simp only [RepV, RepD, true_and]; exact wrap_fits _ _⟩
  case shr =>
    have h' : ¬ b < 0 := by omega
    refine ⟨_, by rw [binOp_shr]; simp only [Op.shift, h', if_false]; rfl, ?_⟩
    simp only [RepV, RepD]
    rw [Int.fdiv_eq_ediv_of_nonneg _ (Int.le_of_lt (two_pow_pos' _))]
    exact ⟨rfl, ediv_fits _ ha⟩
  case eql => subst h; exact ⟨_, by rw [binOp_eql]; rfl, by simp only [RepV, RepD, beq_dec]⟩
  case neq => subst h; exact ⟨_, by rw [binOp_neq]; rfl, by simp only [RepV, RepD, bne_dec]⟩
  case lss => subst h; exact ⟨_, by rw [binOp_lss]; rfl, by simp only [RepV, RepD]⟩
  case leq => subst h; exact ⟨_, by rw [binOp_leq]; rfl, by simp only [RepV, RepD]⟩
  case gtr => subst h; exact ⟨_, by rw [binOp_gtr]; rfl, by simp only [RepV, RepD]⟩
  case geq => subst h; exact ⟨_, by rw [binOp_geq]; rfl, by simp only [RepV, RepD]⟩

theorem mk_toList (l : List UInt8) : (⟨l.toArray⟩ : ByteArray).toList = l := by rw [Go.ByteArray.toList_eq]

theorem mk_size (l : List UInt8) : (⟨l.toArray⟩ : ByteArray).size = l.length := by simp [ByteArray.size]

theorem aBin_str {P : Program} {w A β H} {op : BinOp} {t a b} (h : (aBin P op t (.d (.str a)) (.d (.str b))).pre) :
    ∃ v, (binOp op t (.string ⟨a.toArray⟩) (.string ⟨b.toArray⟩)).run P w = .ok v w ∧ RepV w A β H (aBin P op t (.d (.str a)) (.d (.str b))).res v := by
  cases op <;> simp only [aBin, fail] at h ⊢
  case add =>
    have h1 : ¬ ((a.length + b.length : Nat) : Int) > IntKind.i64.max := by simp only [IntKind.max_i64, LB] at *; omega
    refine ⟨.string (⟨a.toArray⟩ ++ ⟨b.toArray⟩), by simp only [binOp, Op.stringOp, mk_size, h1, if_false]; rfl, ?_⟩
    simp only [RepV, RepD]
    refine ⟨?_, trivial⟩
    first | rfl | (congr 1; done) | (congr 1; apply ByteArray.ext; simp)
  all_goals (refine ⟨_, by simp only [binOp, Op.stringOp, mk_toList]; rfl, ?_⟩; simp only [RepV, RepD, beq_dec])
  simp

theorem aBin_bool {P : Program} {w A β H} {op : BinOp} {t a b} (h : (aBin P op t (.d (.bool a)) (.d (.bool b))).pre) :
    ∃ v, (binOp op t (.bool a) (.bool b)).run P w = .ok v w ∧ RepV w A β H (aBin P op t (.d (.bool a)) (.d (.bool b))).res v := by
  have e : ∀ h : P.underlying t = some .bool, (Op.equal t (.bool a) (.bool b)).run P w = .ok (a == b) w := fun h => run_equalIn_bool h 9999 a b
  cases op <;> simp only [aBin, fail] at h ⊢
  · exact ⟨.bool (a == b), by simp only [binOp, Sem.run_bind, e (und_bool h), Result.andThen_ok, Sem.run_pure], by simp only [RepV, RepD]⟩
  · exact ⟨.bool (!(a == b)), by simp only [binOp, Sem.run_bind, e (und_bool h), Result.andThen_ok, Sem.run_pure], by simp only [RepV, RepD]⟩

theorem sem_bin {P n d op t x y ty tr p e g E H} (hd : ∀ i, d = some i → i < n) (h : (aBin P op t (evalA E x) (evalA E y)).pre) :
    OSem P n ⟨d, .binOp op t x y ty, tr, p, e, g⟩ E H (aBin P op t (evalA E x) (evalA E y)).res [] :=
  OSem.pure hd fun A β a w hc => by
    have h2 := hc.eval x
    have h3 := hc.eval y
    generalize evalA E x = X at *
    generalize evalA E y = Y at *
    have key : (∃ k a k' b, X = .d (.int k a) ∧ Y = .d (.int k' b)) ∨ (∃ a b, X = .d (.str a) ∧ Y = .d (.str b)) ∨ (∃ a b, X = .d (.bool a) ∧ Y = .d (.bool b)) := by
      unfold aBin at h
      split at h
      · exact .inl ⟨_, _, _, _, rfl, rfl⟩
      · exact .inr (.inl ⟨_, _, rfl, rfl⟩)
      · exact .inr (.inr ⟨_, _, rfl, rfl⟩)
      · exact h.elim
    rcases key with ⟨k, b, k', b', rfl, rfl⟩ | ⟨b, b', rfl, rfl⟩ | ⟨b, b', rfl, rfl⟩ <;> simp only [RepV, RepD] at h2 h3
    · obtain ⟨v, h4, h5⟩ := aBin_int (w := w) (A := A) (β := β) (H := H) h h2.2 h3.2
      exact ⟨v, run_binOp_op h2.1 h3.1 (eqGuard_at_int ..) h4, h5⟩
    · obtain ⟨v, h4, h5⟩ := aBin_str (w := w) (A := A) (β := β) (H := H) h
      exact ⟨v, run_binOp_op h2.1 h3.1 (eqGuard_at_string ..) h4, h5⟩
    · obtain ⟨v, h4, h5⟩ := aBin_bool (w := w) (A := A) (β := β) (H := H) h
      exact ⟨v, run_binOp_op h2 h3 (eqGuard_at_bool ..) h4, h5⟩

/-! unary, extract, functions -/
def aUn (op : UnOp) (x : AV) : Out :=
  match op, x with
  | .neg, .d (.int k a) => ok (.d (.int k (k.wrap (0 - a))))
  | .not, .d (.bool b) => ok (.d (.bool (!b)))
  | .xor, .d (.int k a) => ok (.d (.int k (Go.bits .xor k (if k.signed then -1 else k.max) a)))
  | _, _ => fail

theorem sem_un {P n d op t x tr p e g E H} (hd : ∀ i, d = some i → i < n) (h : (aUn op (evalA E x)).pre) :
    OSem P n ⟨d, .unOp op t x, tr, p, e, g⟩ E H (aUn op (evalA E x)).res [] :=
  OSem.pure hd fun A β a w hc => by
    have h2 := hc.eval x
    generalize evalA E x = X at *
    unfold aUn at h ⊢
    split at h
    · simp only [RepV, RepD] at h2
      exact ⟨_, by simp only [execOp, h2.1, Op.unary, Op.intArith, Sem.run_bind, Sem.run_pure, Result.andThen_ok]; rfl, by simp only [ok, RepV, RepD, true_and]; exact wrap_fits _ _⟩
    · simp only [RepV, RepD] at h2
      exact ⟨_, by simp only [execOp, h2, Op.unary, Sem.run_bind, Sem.run_pure, Result.andThen_ok]; rfl, by simp only [ok, RepV, RepD]⟩
    · simp only [RepV, RepD] at h2
      exact ⟨_, by simp only [execOp, h2.1, Op.unary, intBits_xor, Sem.run_bind, Sem.run_pure, Result.andThen_ok]; rfl, by simp only [ok, RepV, RepD, true_and]; exact bits_fits _ _ _ _⟩
    · exact h.elim

def aExtract (x : AV) (i : Nat) : Out :=
  match x with
  | .tup vs => match vs[i]? with | some y => ok y | none => fail
  | _ => fail

theorem sem_extract {P n d x i tr p e g E H} (hd : ∀ i, d = some i → i < n) (h : (aExtract (evalA E x) i).pre) :
    OSem P n ⟨d, .extract x i, tr, p, e, g⟩ E H (aExtract (evalA E x) i).res [] :=
  OSem.pure hd fun A β a w hc => by
    have h2 := hc.eval x
    generalize evalA E x = X at *
    unfold aExtract at h ⊢
    split at h
    · rename_i vs
      simp only [RepV] at h2
      obtain ⟨us, e1, hr⟩ := h2
      cases hv : vs[i]? with
      | none => rw [hv] at h; exact h.elim
      | some y =>
        obtain ⟨v, h3, h4⟩ := hr.get i y hv
        refine ⟨v, ?_, by simpa only [hv, ok] using h4⟩
        simp only [execOp, e1, Instr.extract, ← Array.getElem?_toList, h3, Sem.run_bind, Sem.run_pure, Result.andThen_ok]
    · exact h.elim

theorem evalL_rep {n A β E H a w} (h : CfgF n A β E H a w) : ∀ (xs : List Operand), RepVs w A β H (xs.map (evalA E)) (xs.map a.eval)
  | [] => by simp [RepVs]
  | x :: r => by simp only [List.map_cons, RepVs]; exact ⟨_, _, rfl, h.eval x, evalL_rep h r⟩

def aMakeFunc (f : Fn) (first caps : List AV) : Out :=
  match f, first with
  | .func k, [] => ok (.fn k caps)
  | _, _ => fail

theorem sem_makeFunc {P n d f first caps tr p e g E H} (hd : ∀ i, d = some i → i < n) (h : (aMakeFunc f (first.toList.map (evalA E)) (caps.toList.map (evalA E))).pre) :
    OSem P n ⟨d, .makeFunc f first caps, tr, p, e, g⟩ E H (aMakeFunc f (first.toList.map (evalA E)) (caps.toList.map (evalA E))).res [] :=
  OSem.pure hd fun A β a w hc => by
    unfold aMakeFunc at h ⊢
    split at h
    · rename_i k he
      have hf : first = #[] := by
        have : first.toList = [] := by simpa using he
        exact Array.toList_inj.1 (by simpa using this)
      subst hf
      refine ⟨.func (.func k) #[] (caps.map a.eval), by simp [execOp, Instr.makeFunc], ?_⟩
      simp only [ok, RepV]
      exact ⟨_, rfl, by simpa using evalL_rep hc caps.toList⟩
    · exact h.elim

def aConvert (P : Program) (src dst : Nat) (x : AV) : Out :=
  match (mkTI P dst).k, x with
  | .int k, .d (.int _ a) => ⟨(mkTI P src).k ≠ .other, .d (.int k (k.wrap a)), []⟩
  | .str, .d (.str s) => ⟨(mkTI P src).k = .str, .d (.str s), []⟩
  | _, _ => fail

theorem und_some {P : Program} {t : Nat} (h : (mkTI P t).k ≠ .other) : ∃ d, P.underlying t = some d := by
  have := tk_of (P := P) (t := t) rfl h
  cases hu : P.underlying t with
  | none => rw [← this] at h; simp [tk, hu] at h
  | some d => exact ⟨d, rfl⟩

theorem sem_convert {P n d src dst x tr p e g E H} (hd : ∀ i, d = some i → i < n) (h : (aConvert P src dst (evalA E x)).pre) :
    OSem P n ⟨d, .convert src dst x, tr, p, e, g⟩ E H (aConvert P src dst (evalA E x)).res [] :=
  OSem.pure hd fun A β a w hc => by
    have h2 := hc.eval x
    generalize evalA E x = X at *
    unfold aConvert at h ⊢
    split at h
    · rename_i hk
      simp only [RepV, RepD] at h2
      obtain ⟨ds, hs⟩ := und_some h
      refine ⟨_, ?_, by simp only [RepV, RepD, true_and]; exact ⟨rfl, wrap_fits _ _⟩⟩
      simp [execOp, h2.1, Go.convert, run_underlying hs, run_underlying (und_int hk), Conv.intToInt]
    · rename_i hk
      simp only [RepV, RepD] at h2
      refine ⟨_, ?_, by simp only [RepV, RepD]; exact ⟨rfl, h2.2⟩⟩
      simp [execOp, h2.1, Go.convert, run_underlying (und_str h), run_underlying (und_str hk)]
    · exact h.elim

/-! ### addresses -/
def liveBox : Option AObj → Prop
  | some (.box _) => True
  | _ => False
def liveArr : Option AObj → Nat → Prop
  | some (.arr _ _ es), n => n = es.length
  | _, _ => False
theorem liveBox_of {o : Option AObj} (h : liveBox o) : ∃ cs, o = some (.box cs) := by
  unfold liveBox at h; split at h
  · exact ⟨_, rfl⟩
  · exact h.elim
theorem liveArr_of {o : Option AObj} {n : Nat} (h : liveArr o n) : ∃ T sz es, o = some (.arr T sz es) ∧ n = es.length := by
  unfold liveArr at h; split at h
  · exact ⟨_, _, _, rfl, h⟩
  · exact h.elim

def aNilCheck (x : AV) (H : HF) : Out :=
  match x with
  | .ref cs => ok (.ref cs)
  | .box id o => ⟨liveBox (H id), .box id o, []⟩
  | .fn f c => ok (.fn f c)
  | _ => fail

theorem sem_nilCheck {P n d x tr p e g E H} (hd : ∀ i, d = some i → i < n) (h : (aNilCheck (evalA E x) H).pre) :
    OSem P n ⟨d, .nilCheck x, tr, p, e, g⟩ E H (aNilCheck (evalA E x) H).res [] :=
  OSem.pure hd fun A β a w hc => by
    have h2 := hc.eval x
    generalize evalA E x = X at *
    unfold aNilCheck at h ⊢
    split at h
    · have h3 := h2
      simp only [RepV] at h2
      obtain ⟨b, o, e1, _⟩ := h2
      exact ⟨_, by simp only [execOp, e1, Sem.run_pure]; rfl, by rw [← e1]; exact h3⟩
    · obtain ⟨cs, h⟩ := liveBox_of h
      have h3 := h2
      simp only [RepV, h] at h2
      obtain ⟨b, _, e1⟩ := h2
      exact ⟨_, by simp only [execOp, e1, Sem.run_pure]; rfl, by rw [← e1]; exact h3⟩
    · have h3 := h2
      simp only [RepV] at h2
      obtain ⟨cs, e1, _⟩ := h2
      exact ⟨_, by simp only [execOp, e1, Sem.run_pure]; rfl, by rw [← e1]; exact h3⟩
    · exact h.elim

def aFieldAddr (P : Program) (s : Nat) (x : AV) (f : Nat) (H : HF) : Out :=
  match (mkTI P s).k with
  | .struct fs => match fs[f]? with
    | some (off, ft) => match x with
      | .ref cs => ⟨(mkTI P ft).size ≠ 0, .ref (cs.drop off), []⟩
      | .box id o => ⟨(mkTI P ft).size ≠ 0 ∧ liveBox (H id), .box id (o + off), []⟩
      | .elt id i o m => ⟨(mkTI P ft).size ≠ 0 ∧ liveArr (H id) m, .elt id i (o + off) m, []⟩
      | _ => fail
    | none => fail
  | _ => fail

theorem add_eq (b o n : Nat) : (⟨b, o, none⟩ : Addr).add n = ⟨b, o + n, none⟩ := Addr.add_lit b o n

theorem run_fieldAt {P : Program} {w : World} {s f off ft : Nat} {fs} (h1 : (mkTI P s).k = .struct fs) (h2 : fs[f]? = some (off, ft)) (h3 : (mkTI P ft).size ≠ 0) (b o : Nat) :
    (Instr.fieldAt s (.pointer (some ⟨b, o, none⟩)) f).run P w = .ok (.pointer (some ⟨b, o + off, none⟩)) w := by
  obtain ⟨gs, hu, rfl⟩ := und_struct h1
  simp only [List.getElem?_map, Option.map_eq_some_iff] at h2
  obtain ⟨fl, hf, he⟩ := h2
  cases he
  simp [Instr.fieldAt, run_underlying hu, ← Array.getElem?_toList, hf, Instr.sureAddr, fieldPlace, run_sizeOf h3, h3, add_eq]

end Go.AX
