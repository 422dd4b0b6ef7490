import Derived.Test.YtmggphnhfegffaaAxZ
set_option linter.unusedVariables false
set_option linter.unusedSimpArgs false
namespace Go.AX
theorem wrap64 {x : Int} (h : -9223372036854775808 ≤ x) (h' : x ≤ 9223372036854775807) : IntKind.i64.wrap x = x := by
  unfold IntKind.wrap
  simp only [IntKind.signed, IntKind.bits]
  simp
  omega
/-- A guard: both ways. -/
theorem VGd_cases {P n nb full o w r s lg K} {b : Bool} (ht : b = true → VGd P n nb full o w r s lg K (.d (.bool true))) (hf : b = false → VGd P n nb full o w r s lg K (.d (.bool false))) :
    VGd P n nb full o w r s lg K (.d (.bool b)) := by cases b; exact hf rfl; exact ht rfl
def DI (l : List Int) : D := .sl (l.map fun x => [.int .i64 x])
def ints (l : List Int) : List (List D) := l.map fun x => [.int .i64 x]
theorem ints_len (l : List Int) : (ints l).length = l.length := by simp [ints]
theorem ints_getD {l : List Int} {i : Nat} (h : i < l.length) : (ints l).getD i [] = [.int .i64 l[i]] := by simp [ints, h]
theorem ints_app (a b : List Int) : ints a ++ ints b = ints (a ++ b) := by simp [ints]

/-- What a closure has captured: values, and objects that its caller lends it. -/
structure Clo (h : HL) (caps : List AV) : Prop where
  sub : subOf (hget h) h
  closed : closedIn (h.map (·.1)) h
  all : allSome h
  view : AV.viewXs (h.map (·.1)) (hget h) caps = caps
  viewP : AV.viewXPs (h.map (·.1)) (hget h) caps
  ids : ∀ i ∈ AV.idsL caps, i ∈ h.map (·.1)
theorem subH_of_get {H : HF} : ∀ {h : HL}, (∀ i ∈ h.map (·.1), H i = hget h i) → subOf (hget h) h → subH H h := by
  have key : ∀ (l h : HL), (∀ i ∈ l.map (·.1), H i = hget h i) → subOf (hget h) l → subH H l := by
    intro l
    induction l with
    | nil => intro _ _ _; trivial
    | cons x r ih =>
      intro h hh hs
      obtain ⟨i, o⟩ := x
      cases o with
      | none => simp only [subOf] at hs
      | some o =>
        obtain ⟨h1, h2⟩ := hs
        refine ⟨by rw [hh i (by simp), h1], ih h (fun j hj => hh j (by simp only [List.map_cons, List.mem_cons]; exact .inr hj)) h2⟩
  exact fun {h} a b => key h h a b
theorem Clo.subH {h r : HL} {caps} (hc : Clo h caps) : AX.subH (hget (h ++ r)) h :=
  subH_of_get (fun i hi => by rw [hget_append, updF_get, if_pos hi]) hc.sub
theorem newOrOld_self {nb s} : ∀ {l old : List Nat}, (∀ i ∈ l, i ∈ old) → newOrOld nb s old l
  | [], _, _ => trivial
  | i :: r, old, h => ⟨.inl (h i (by simp)), newOrOld_self fun j hj => h j (by simp [hj])⟩
theorem bound_of {h : HL} : ∀ i, hget h i ≠ none → i < (h.map (·.1)).foldr max 0 + 1 := by
  induction h with
  | nil => intro i hi; simp [hget] at hi
  | cons x r ih =>
    intro i hi
    obtain ⟨j, o⟩ := x
    simp only [hget] at hi
    simp only [List.map_cons, List.foldr_cons]
    by_cases e : i = j
    · subst e; omega
    · rw [if_neg e] at hi
      have := ih i hi
      omega

section
variable {P : Program} {n nb : Nat} {full r : List Oper} {s : St} {lg : Log} {K : Log → St → Prop} {d : Option Nat} {t : Nat} {p : String} {e : Array Edge}
  {fo : Operand} {args : Array Operand} {ts : Array Nat}
/-- A call of a closure, or of a function that gets one: it gets the objects that the closure has, and leaves them as they are. -/
theorem VCl.clo {f : FuncId} {caps args' caps' : List AV} {res : AV} (hc : HL) (hf : evalA (eget s.e) fo = .fn f caps) (hv : AV.viewXs (hc.map (·.1)) (hget s.h) (args.toList.map (evalA (eget s.e)) ++ caps) = args')
    (hcall : ACalls P f args' hc res hc) (hclo : Clo hc caps') (hsub : subOf (hget s.h) hc) (hp : AV.viewXPs (hc.map (·.1)) (hget s.h) (args.toList.map (evalA (eget s.e)) ++ caps))
    (hids : ∀ i ∈ AV.idsL (args.toList.map (evalA (eget s.e)) ++ caps), i ∈ hc.map (·.1)) (hr : res.ids = []) (hd : dstOk n d)
    (hK : VOps P n nb full r (s.step d res (hc ++ hc.map fun x => (x.1, none))) none K) :
    VCl P n nb full ⟨d, .call { callee := .value fo, args := args, argTypes := ts }, t, p, e, none⟩ r s none K := by
  refine VCl.sub (s := s) (lg := none) hc [] hf hv hcall hsub hp (fun i hi hn => absurd (hids i hi) hn) (by simp) hclo.closed hclo.closed (by rw [hr]; simp) hclo.all hd (newOrOld_self fun i hi => hi) ?_
  simp only [List.map_nil, List.append_nil, addLog_none']
  exact hK
end
end Go.AX
