import Derived.Test.YtmggphnhfegffaaAxM
set_option linter.unusedVariables false
set_option linter.unusedSimpArgs false
namespace Go.AX

abbrev EL := List (Nat × AV)
def eget : EL → EF
  | [], _ => .any
  | (j, x) :: r, i => if i = j then x else eget r i
def hget : HL → HF
  | [], _ => none
  | (j, o) :: r, i => if i = j then o else hget r i

theorem hget_append (u h : HL) : hget (u ++ h) = updF (hget h) u := by
  funext i
  induction u with
  | nil => rfl
  | cons x r ih =>
    obtain ⟨j, o⟩ := x
    simp only [List.cons_append, hget, updF, ih]

structure St where
  e : EL
  h : HL

def putL (e : EL) : Option Nat → AV → EL
  | none, _ => e
  | some d, x => (d, x) :: e
theorem eget_putL (e : EL) (d : Option Nat) (x : AV) : eget (putL e d x) = putE (eget e) d x := by
  cases d <;> rfl

def freshE (nm : Nat) : EL → Prop
  | [] => True
  | (_, x) :: r => nm ∉ x.ids ∧ freshE nm r
def freshO (nm : Nat) : Option AObj → Prop
  | none => True
  | some o => nm ∉ o.ids
def freshH (nm : Nat) : HL → Prop
  | [] => True
  | (j, o) :: r => nm ≠ j ∧ freshO nm o ∧ freshH nm r

theorem freshE_get {nm : Nat} : ∀ {e : EL}, freshE nm e → ∀ t, nm ∉ (eget e t).ids
  | [], _, t => by simp [eget, AV.ids]
  | (j, x) :: r, h, t => by
    simp only [eget]
    split
    · exact h.1
    · exact freshE_get h.2 t
theorem freshH_get {nm : Nat} : ∀ {h : HL}, freshH nm h → hget h nm = none ∧ ∀ j o, hget h j = some o → nm ∉ o.ids
  | [], _ => by simp [hget]
  | (j, o) :: r, h => by
    obtain ⟨h1, h2, h3⟩ := h
    obtain ⟨h4, h5⟩ := freshH_get h3
    refine ⟨by simp only [hget, h1, if_false]; exact h4, fun k o' ho => ?_⟩
    simp only [hget] at ho
    split at ho
    · subst ho; exact h2
    · exact h5 k o' ho
theorem fresh_of {nm : Nat} {s : St} (h1 : freshE nm s.e) (h2 : freshH nm s.h) : Fresh nm (eget s.e) (hget s.h) :=
  ⟨(freshH_get h2).1, freshE_get h1, (freshH_get h2).2⟩

/-- New names are new. -/
def freshU (nb : Nat) (s : St) : HL → Prop
  | [] => True
  | (i, some _) :: r => (hget s.h i ≠ none ∨ (nb ≤ i ∧ freshE i s.e ∧ freshH i s.h)) ∧ freshU nb s r
  | (_, none) :: r => freshU nb s r

def dstOk (n : Nat) : Option Nat → Prop
  | none => True
  | some d => d < n

def updIds : HL → List Nat
  | [] => []
  | (_, some o) :: r => o.ids ++ updIds r
  | (_, none) :: r => updIds r

def St.ev (s : St) (x : Operand) : AV := evalA (eget s.e) x

def po (o : Out) : Out := ⟨o.pre, o.res, []⟩
def so (o : Out) : Out := ⟨o.pre, .any, o.upd⟩
/-- The name is not in use. -/
def aNew (H : HF) (nm : Nat) (o : Out) : Out := ⟨H nm = none ∧ o.pre, o.res, o.upd⟩

/-- The outcome of every operation but the calls of functions with a body; what it looks at in the heap. -/
def outOf (P : Program) (nb : Nat) (o : Oper) (E : EF) (H : HF) : Out × List Nat :=
  let nm := nb + o.dst.getD 0
  let ev := evalA E
  match o.op with
  | .move x | .assign x => (ok (ev x), [])
  | .pick c a b => (po (aPick (ev c) (ev a) (ev b)), [])
  | .binOp op t x y _ => (po (aBin P op t (ev x) (ev y)), [])
  | .unOp op _ x => (po (aUn op (ev x)), [])
  | .extract x i => (po (aExtract (ev x) i), [])
  | .makeFunc f first caps => (po (aMakeFunc f (first.toList.map ev) (caps.toList.map ev)), [])
  | .convert a b x => (po (aConvert P a b (ev x)), [])
  | .nilCheck x => (po (aNilCheck (ev x) H), (ev x).ids)
  | .fieldAddr s x f => (po (aFieldAddr P s (ev x) f H), (ev x).ids)
  | .field s x f => (po (aField P s (ev x) f), [])
  | .load t x => (po (aLoad P t (ev x) H), (ev x).ids)
  | .store t x y => (so (aStore P t (ev x) (ev y) H), (ev x).ids ++ (ev y).ids)
  | .indexAddr t x i => (po (aIndexAddr P t (ev x) (ev i) H), (ev x).ids)
  | .index t x i => (po (aIndex P t (ev x) (ev i)), [])
  | .slice t x lo hi none => (po (aSlice P t (ev x) (lo.map ev) (hi.map ev) H), (ev x).ids)
  | .slice t x none (some hi) (some mx) => (po (aSlice0 P t (ev x) (ev hi) (ev mx) H), (ev x).ids)
  | .alloc t => (aNew H nm (aAlloc P nm t), [nm])
  | .box _ x => (aNew H nm (aBox nm (ev x) H), nm :: (ev x).ids)
  | .build t ps => (po (aBuild P t (ps.toList.map fun p => (p.1, ev p.2)) H), AV.idsL (ps.toList.map fun p => ev p.2))
  | .buildSlice t len ps => (aNew H nm (aBuildSlice P nm t len (ps.toList.map fun p => (p.1, ev p.2)) H), nm :: AV.idsL (ps.toList.map fun p => ev p.2))
  | .makeSlice t l c => (aNew H nm (aMake P nm t (ev l) (ev c)), [nm])
  | .call { callee := .builtin .len, args := ⟨[x]⟩, argTypes := ⟨[t]⟩ } => (po (aLen P t (ev x) H), (ev x).ids)
  | .call { callee := .builtin .min, args := ⟨[x, y]⟩, argTypes := _ } => (po (aMin (ev x) (ev y)), [])
  | .call { callee := .builtin .max, args := ⟨[x, y]⟩, argTypes := _ } => (po (aMax (ev x) (ev y)), [])
  | .call { callee := .builtin .append, args := ⟨[x, y]⟩, argTypes := ⟨[t, u]⟩ } => (if t = u then aAppend P nm t (ev x) (ev y) H else fail, nm :: ((ev x).ids ++ (ev y).ids))
  | _ => (fail, [])

theorem aMake_mem {P nm t l c} (h : (aMake P nm t l c).pre) : ∃ x, (nm, some x) ∈ (aMake P nm t l c).upd := by
  unfold aMake at h ⊢
  split at h
  · exact ⟨_, List.mem_singleton.2 rfl⟩
  · exact h.elim

theorem outOf_sound {P n nb} {o : Oper} {E H} (hd : ∀ i, o.dst = some i → i < n) (hpre : (outOf P nb o E H).1.pre)
    (hf : ∀ i x, (i, some x) ∈ (outOf P nb o E H).1.upd → H i = none → Fresh i E H) :
    OSem P n o E H (outOf P nb o E H).1.res (outOf P nb o E H).1.upd := by
  obtain ⟨dst, op, type, pos, after, guard⟩ := o
  have nofresh : ∀ nm, H nm ≠ none → Fresh nm E H → False := fun nm h1 h2 => h1 h2.1
  unfold outOf at hpre hf ⊢
  simp only at hd
  split at hpre <;> simp only [*] at hf ⊢ <;> rename_i hop <;> simp only at hop <;> (try subst hop)
  · exact sem_move hd
  · exact sem_assign hd
  · exact sem_pick hd hpre
  · exact sem_bin hd hpre
  · exact sem_un hd hpre
  · exact sem_extract hd hpre
  · exact sem_makeFunc hd hpre
  · exact sem_convert hd hpre
  · exact sem_nilCheck hd hpre
  · exact sem_fieldAddr hd hpre
  · exact sem_field hd hpre
  · exact sem_load hd hpre
  · exact sem_store hd hpre
  · exact sem_indexAddr hd hpre
  · exact sem_index hd hpre
  · exact sem_slice hd hpre
  · exact sem_slice0 hd hpre
  · exact sem_alloc hd (hf _ _ (List.mem_singleton.2 rfl) hpre.1) hpre.2
  · exact sem_box hd (hf _ _ (List.mem_singleton.2 rfl) hpre.1) hpre.2
  · exact sem_build hd hpre
  · exact sem_buildSlice hd (hf _ _ (List.mem_cons_self ..) hpre.1) hpre.2
  · obtain ⟨x, hx⟩ := aMake_mem hpre.2
    exact sem_make hd (hf _ x hx hpre.1) hpre.2
  · exact sem_len hd hpre
  · exact sem_min hd hpre
  · exact sem_max hd hpre
  · rename_i x y t u
    by_cases htu : t = u
    · subst htu
      simp only [if_true] at hpre hf ⊢
      refine sem_append hd (fun hx => ?_) hpre
      unfold aAppend at hpre hf
      rw [hx] at hpre hf
      exact hf _ _ (List.mem_singleton.2 rfl) hpre.1
    · simp only [htu, if_false] at hpre
      exact hpre.elim
  · exact hpre.elim
end Go.AX
