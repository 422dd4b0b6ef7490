import Derived.Test.YtmggphnhfegffaaAxW
set_option linter.unusedVariables false
set_option linter.unusedSimpArgs false
namespace Go.AX

/-- What one operation's outcome leads to. -/
def V1 (P : Program) (n nb : Nat) (full : List Oper) (d : Option Nat) (r : List Oper) (s : St) (lg : Log) (K : Log → St → Prop) (x : Out × List Nat) : Prop :=
  x.1.pre ∧ dstOk n d ∧ freshU nb s x.1.upd ∧
    VOps P n nb full r (s.step d x.1.res x.1.upd) (addLog lg false (x.2 ++ x.1.upd.map (·.1)) (x.1.res.ids ++ updIds x.1.upd) (x.1.upd.map (·.1)) (newIds (hget s.h) x.1.upd)) K
/-- A call of a function with a body. -/
def VCl (P : Program) (n nb : Nat) (full : List Oper) (o : Oper) (r : List Oper) (s : St) (lg : Log) (K : Log → St → Prop) : Prop :=
  VOp P n nb o s lg fun lg' s' => VOps P n nb full r s' lg' K
/-- An operation that stands under a guard; 'x' is the guard's value. -/
def VGd (P : Program) (n nb : Nat) (full : List Oper) (o : Oper) (want : Bool) (r : List Oper) (s : St) (lg : Log) (K : Log → St → Prop) (x : AV) : Prop :=
  VG x want (VOps P n nb full (o :: r) s lg K) (dstOk n o.dst ∧ VOps P n nb full r (s.step o.dst (.tup []) []) (addLog lg false [] [] [] []) K)
def VGs (P : Program) (n nb : Nat) (full : List Oper) (o : Oper) (want : Bool) (r : List Oper) (s : St) (lg : Log) (K : Log → St → Prop) (g : Option Nat) : Prop :=
  match g with
  | none => False
  | some t => VGd P n nb full o want r s lg K (eget s.e t)

section
variable {P : Program} {n nb : Nat} {full r : List Oper} {s : St} {lg : Log} {K : Log → St → Prop} {d : Option Nat} {t : Nat} {p : String} {e : Array Edge}

theorem V1_none {pre : Prop} {res : AV} {upd : HL} {ids : List Nat} : V1 P n nb full d r s none K (⟨pre, res, upd⟩, ids) = (pre ∧ dstOk n d ∧ freshU nb s upd ∧ VOps P n nb full r (s.step d res upd) none K) := rfl
theorem V1_some {l : List Ent} {pre : Prop} {res : AV} {upd : HL} {ids : List Nat} : V1 P n nb full d r s (some l) K (⟨pre, res, upd⟩, ids) =
    (pre ∧ dstOk n d ∧ freshU nb s upd ∧ VOps P n nb full r (s.step d res upd) (some (⟨false, ids ++ upd.map (·.1), res.ids ++ updIds upd, upd.map (·.1), newIds (hget s.h) upd⟩ :: l)) K) := rfl
theorem V_nil : VOps P n nb full [] s lg K = K lg s := rfl

theorem V_move {x} : VOps P n nb full (⟨d, .move x, t, p, e, none⟩ :: r) s lg K = V1 P n nb full d r s lg K (ok (evalA (eget s.e) x), []) := rfl
theorem V_assign {x} : VOps P n nb full (⟨d, .assign x, t, p, e, none⟩ :: r) s lg K = V1 P n nb full d r s lg K (ok (evalA (eget s.e) x), []) := rfl
theorem V_pick {c a b} : VOps P n nb full (⟨d, .pick c a b, t, p, e, none⟩ :: r) s lg K = V1 P n nb full d r s lg K (po (aPick (evalA (eget s.e) c) (evalA (eget s.e) a) (evalA (eget s.e) b)), []) := rfl
theorem V_bin {op u x y z} : VOps P n nb full (⟨d, .binOp op u x y z, t, p, e, none⟩ :: r) s lg K = V1 P n nb full d r s lg K (po (aBin P op u (evalA (eget s.e) x) (evalA (eget s.e) y)), []) := rfl
theorem V_un {op u x} : VOps P n nb full (⟨d, .unOp op u x, t, p, e, none⟩ :: r) s lg K = V1 P n nb full d r s lg K (po (aUn op (evalA (eget s.e) x)), []) := rfl
theorem V_extract {x i} : VOps P n nb full (⟨d, .extract x i, t, p, e, none⟩ :: r) s lg K = V1 P n nb full d r s lg K (po (aExtract (evalA (eget s.e) x) i), []) := rfl
theorem V_makeFunc {f a c} : VOps P n nb full (⟨d, .makeFunc f a c, t, p, e, none⟩ :: r) s lg K = V1 P n nb full d r s lg K (po (aMakeFunc f (a.toList.map (evalA (eget s.e))) (c.toList.map (evalA (eget s.e)))), []) := rfl
theorem V_convert {a b x} : VOps P n nb full (⟨d, .convert a b x, t, p, e, none⟩ :: r) s lg K = V1 P n nb full d r s lg K (po (aConvert P a b (evalA (eget s.e) x)), []) := rfl
theorem V_nilCheck {x} : VOps P n nb full (⟨d, .nilCheck x, t, p, e, none⟩ :: r) s lg K = V1 P n nb full d r s lg K (po (aNilCheck (evalA (eget s.e) x) (hget s.h)), (evalA (eget s.e) x).ids) := rfl
theorem V_fieldAddr {u x f} : VOps P n nb full (⟨d, .fieldAddr u x f, t, p, e, none⟩ :: r) s lg K = V1 P n nb full d r s lg K (po (aFieldAddr P u (evalA (eget s.e) x) f (hget s.h)), (evalA (eget s.e) x).ids) := rfl
theorem V_field {u x f} : VOps P n nb full (⟨d, .field u x f, t, p, e, none⟩ :: r) s lg K = V1 P n nb full d r s lg K (po (aField P u (evalA (eget s.e) x) f), []) := rfl
theorem V_load {u x} : VOps P n nb full (⟨d, .load u x, t, p, e, none⟩ :: r) s lg K = V1 P n nb full d r s lg K (po (aLoad P u (evalA (eget s.e) x) (hget s.h)), (evalA (eget s.e) x).ids) := rfl
theorem V_store {u x y} : VOps P n nb full (⟨d, .store u x y, t, p, e, none⟩ :: r) s lg K = V1 P n nb full d r s lg K (so (aStore P u (evalA (eget s.e) x) (evalA (eget s.e) y) (hget s.h)), (evalA (eget s.e) x).ids ++ (evalA (eget s.e) y).ids) := rfl
theorem V_indexAddr {u x i} : VOps P n nb full (⟨d, .indexAddr u x i, t, p, e, none⟩ :: r) s lg K = V1 P n nb full d r s lg K (po (aIndexAddr P u (evalA (eget s.e) x) (evalA (eget s.e) i) (hget s.h)), (evalA (eget s.e) x).ids) := rfl
theorem V_index {u x i} : VOps P n nb full (⟨d, .index u x i, t, p, e, none⟩ :: r) s lg K = V1 P n nb full d r s lg K (po (aIndex P u (evalA (eget s.e) x) (evalA (eget s.e) i)), []) := rfl
theorem V_slice {u x lo hi} : VOps P n nb full (⟨d, .slice u x lo hi none, t, p, e, none⟩ :: r) s lg K = V1 P n nb full d r s lg K (po (aSlice P u (evalA (eget s.e) x) (lo.map (evalA (eget s.e))) (hi.map (evalA (eget s.e))) (hget s.h)), (evalA (eget s.e) x).ids) := rfl
theorem V_slice0 {u x hi mx} : VOps P n nb full (⟨d, .slice u x none (some hi) (some mx), t, p, e, none⟩ :: r) s lg K = V1 P n nb full d r s lg K (po (aSlice0 P u (evalA (eget s.e) x) (evalA (eget s.e) hi) (evalA (eget s.e) mx) (hget s.h)), (evalA (eget s.e) x).ids) := rfl
theorem V_alloc {u} : VOps P n nb full (⟨d, .alloc u, t, p, e, none⟩ :: r) s lg K = V1 P n nb full d r s lg K (aNew (hget s.h) (nb + d.getD 0) (aAlloc P (nb + d.getD 0) u), [nb + d.getD 0]) := rfl
theorem V_box {u x} : VOps P n nb full (⟨d, .box u x, t, p, e, none⟩ :: r) s lg K = V1 P n nb full d r s lg K (aNew (hget s.h) (nb + d.getD 0) (aBox (nb + d.getD 0) (evalA (eget s.e) x) (hget s.h)), (nb + d.getD 0) :: (evalA (eget s.e) x).ids) := rfl
theorem V_build {u ps} : VOps P n nb full (⟨d, .build u ps, t, p, e, none⟩ :: r) s lg K = V1 P n nb full d r s lg K (po (aBuild P u (ps.toList.map fun p => (p.1, evalA (eget s.e) p.2)) (hget s.h)), AV.idsL (ps.toList.map fun p => evalA (eget s.e) p.2)) := rfl
theorem V_buildSlice {u len ps} : VOps P n nb full (⟨d, .buildSlice u len ps, t, p, e, none⟩ :: r) s lg K = V1 P n nb full d r s lg K (aNew (hget s.h) (nb + d.getD 0) (aBuildSlice P (nb + d.getD 0) u len (ps.toList.map fun p => (p.1, evalA (eget s.e) p.2)) (hget s.h)), (nb + d.getD 0) :: AV.idsL (ps.toList.map fun p => evalA (eget s.e) p.2)) := rfl
theorem V_makeSlice {u l c} : VOps P n nb full (⟨d, .makeSlice u l c, t, p, e, none⟩ :: r) s lg K = V1 P n nb full d r s lg K (aNew (hget s.h) (nb + d.getD 0) (aMake P (nb + d.getD 0) u (evalA (eget s.e) l) (evalA (eget s.e) c)), [nb + d.getD 0]) := rfl
theorem V_len {x u} : VOps P n nb full (⟨d, .call { callee := .builtin .len, args := #[x], argTypes := #[u] }, t, p, e, none⟩ :: r) s lg K = V1 P n nb full d r s lg K (po (aLen P u (evalA (eget s.e) x) (hget s.h)), (evalA (eget s.e) x).ids) := rfl
theorem V_min {x y u} : VOps P n nb full (⟨d, .call { callee := .builtin .min, args := #[x, y], argTypes := u }, t, p, e, none⟩ :: r) s lg K = V1 P n nb full d r s lg K (po (aMin (evalA (eget s.e) x) (evalA (eget s.e) y)), []) := rfl
theorem V_max {x y u} : VOps P n nb full (⟨d, .call { callee := .builtin .max, args := #[x, y], argTypes := u }, t, p, e, none⟩ :: r) s lg K = V1 P n nb full d r s lg K (po (aMax (evalA (eget s.e) x) (evalA (eget s.e) y)), []) := rfl
theorem V_append {x y u v} : VOps P n nb full (⟨d, .call { callee := .builtin .append, args := #[x, y], argTypes := #[u, v] }, t, p, e, none⟩ :: r) s lg K = V1 P n nb full d r s lg K ((if u = v then aAppend P (nb + d.getD 0) u (evalA (eget s.e) x) (evalA (eget s.e) y) (hget s.h) else fail), (nb + d.getD 0) :: ((evalA (eget s.e) x).ids ++ (evalA (eget s.e) y).ids)) := rfl
theorem V_call {fo args ts} : VOps P n nb full (⟨d, .call { callee := .value fo, args := args, argTypes := ts }, t, p, e, none⟩ :: r) s lg K = VCl P n nb full ⟨d, .call { callee := .value fo, args := args, argTypes := ts }, t, p, e, none⟩ r s lg K := rfl

theorem VOp_guard {op} {g : Option (Nat × Bool)} {K} : VOp P n nb ⟨d, op, t, p, e, g⟩ s lg K = VOp P n nb ⟨d, op, t, p, e, none⟩ s lg K := rfl
theorem V_guard {op} {j w} : VOps P n nb full (⟨d, op, t, p, e, some (j, w)⟩ :: r) s lg K =
    VGs P n nb full ⟨d, op, t, p, e, none⟩ w r s lg K (gslot full j) := by
  cases hg : gslot full j <;> simp only [VGs, VOps, hg, VGd]
  rw [VOp_guard]
theorem VGs_some {o w} {g : Nat} : VGs P n nb full o w r s lg K (some g) = VGd P n nb full o w r s lg K (eget s.e g) := rfl
theorem VG_tt {o} : VGd P n nb full o true r s lg K (.d (.bool true)) = VOps P n nb full (o :: r) s lg K := by simp [VGd, VG]
theorem VG_ff {o} : VGd P n nb full o false r s lg K (.d (.bool false)) = VOps P n nb full (o :: r) s lg K := by simp [VGd, VG]
theorem VG_tf {op} : VGd P n nb full ⟨d, op, t, p, e, none⟩ false r s lg K (.d (.bool true)) = (dstOk n d ∧ VOps P n nb full r (s.step d (.tup []) []) (addLog lg false [] [] [] []) K) := by simp [VGd, VG]
theorem VG_ft {op} : VGd P n nb full ⟨d, op, t, p, e, none⟩ true r s lg K (.d (.bool false)) = (dstOk n d ∧ VOps P n nb full r (s.step d (.tup []) []) (addLog lg false [] [] [] []) K) := by simp [VGd, VG]
theorem VG_u {op w} : VGd P n nb full ⟨d, op, t, p, e, none⟩ w r s lg K (.tup []) = (dstOk n d ∧ VOps P n nb full r (s.step d (.tup []) []) (addLog lg false [] [] [] []) K) := by simp [VGd, VG]
theorem cond_bool {c a b : Bool} : (bif c then AV.d (.bool a) else AV.d (.bool b)) = AV.d (.bool (bif c then a else b)) := by cases c <;> rfl
theorem cond_int {c : Bool} {k a b} : (bif c then AV.d (.int k a) else AV.d (.int k b)) = AV.d (.int k (bif c then a else b)) := by cases c <;> rfl
theorem zv_i64 {x : Int} (h : -9223372036854775808 ≤ x ∧ x ≤ 9223372036854775807) : zv (.int .i64 x) = .d (.int .i64 x) := by
  show (if IntKind.i64.min ≤ x ∧ x ≤ IntKind.i64.max then AV.d (.int .i64 x) else .any) = _
  rw [i64_min, i64_max, if_pos h]
theorem zv_u8 {x : Int} (h : 0 ≤ x ∧ x ≤ 255) : zv (.int .u8 x) = .d (.int .u8 x) := by
  show (if IntKind.u8.min ≤ x ∧ x ≤ IntKind.u8.max then AV.d (.int .u8 x) else .any) = _
  rw [if_pos (by simpa [show IntKind.u8.min = 0 from by decide, show IntKind.u8.max = 255 from by decide] using h)]
theorem zv_bool {b} : zv (.bool b) = .d (.bool b) := rfl
theorem zv_nils : zv (.slice none 0 0) = .nils := rfl
theorem zv_nilp : zv (.pointer none) = .nilp := rfl
theorem addLog_none' {all t m w n} : addLog none all t m w n = none := rfl
theorem addLog_some' {l all t m w n} : addLog (some l) all t m w n = some (⟨all, t, m, w, n⟩ :: l) := rfl
end
end Go.AX
