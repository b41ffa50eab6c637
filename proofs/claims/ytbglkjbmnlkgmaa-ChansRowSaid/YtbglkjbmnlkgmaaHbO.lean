import Derived.Test.YtbglkjbmnlkgmaaHbN
namespace Go.Hb
open Go Go.RowKit

/-! ### calls -/
def fnOk (P : Program) (f : FuncId) : Bool := match P.funcs[f]? with
  | some fn => fn.body.isSome && !(fn.name == "runtime.NumGoroutine")
  | none => false

def aCalls (P : Program) (f : FuncId) (args : List LV) (s : List AObj) (v : List Nat) (R : LV → List AObj → List Nat → Prop) : Prop :=
  fnOk P f = true ∧ ∀ (C : Ctx) (vs : Array Value), Ok C s → C.τ = v → RelVs C args vs.toList →
    Calls P f vs C.w fun e w' => ∃ C' x u s' v', C'.w = w' ∧ e = .returned u ∧ C.le C' ∧ Ok C' s' ∧ C'.τ = v' ∧ RelV C' x u ∧ R x s' v'

theorem aCalls_mono {P : Program} {f : FuncId} {args : List LV} {s : List AObj} {v : List Nat} {R R' : LV → List AObj → List Nat → Prop} (h : aCalls P f args s v R) (hr : ∀ x s v, R x s v → R' x s v) : aCalls P f args s v R' :=
  ⟨h.1, fun C vs h1 h2 h3 => (h.2 C vs h1 h2 h3).mono fun e w' ⟨C', x, u, s', v', k1, k2, k3, k4, k5, k6, k7⟩ => ⟨C', x, u, s', v', k1, k2, k3, k4, k5, k6, hr _ _ _ k7⟩⟩

theorem run_callFunc {P : Program} {f : FuncId} (h : fnOk P f = true) (args : Array Value) (w : World) : (callFunc f args).run P w = .ok (.enter f args) w := by
  unfold fnOk at h
  cases hf : P.funcs[f]? with
  | none => simp [hf] at h
  | some fn =>
    simp only [hf, Bool.and_eq_true, Bool.not_eq_true'] at h
    obtain ⟨h1, h2⟩ := h
    have h3 : fn.body.isNone = false := by cases hb : fn.body <;> simp_all
    unfold callFunc
    simp only [Sem.run_bind, run_program, Result.andThen_ok, hf, h2, Bool.false_eq_true, if_false, h3]
    rfl

/-- A yield: what becomes of a round. -/
def aRound (P : Program) (l : Nat) (args : List LV) (s : List AObj) (v : List Nat) (R : LV → List AObj → List Nat → Prop) : Prop :=
  ∀ (C : Ctx) (vs : Array Value), Ok C s → C.τ = v → RelVs C args vs.toList → l < C.n ∧
    ∃ fn tmps assign body, (Instr.yield (C.ρ l) vs).run P C.w = .ok (.round (C.ρ l) fn tmps assign body) C.w ∧
    ∀ F : Fence, F = Fr C none → RoundIn F 0 P (C.ρ l) fn tmps assign body C.w fun e w' => ∃ C' x u s' v', C'.w = w' ∧ e = .returned u ∧ C.le C' ∧ Ok C' s' ∧ C'.τ = v' ∧ RelV C' x u ∧ R x s' v'

theorem RelVs.mk {C : Ctx} {t : Nat → LV} {a : Act} (r : RelT C t a.tmps) (as : Array Operand) : RelVs C (as.toList.map (aev t)) (as.map a.eval).toList := by
  simpa using relVs_map r as.toList

/-! ### the operations of a region, in the text's order -/
def aGuard (ops : Array Oper) (t : Nat → LV) (o : Oper) : Option Bool := match o.guard with
  | none => some true
  | some (j, want) => match (ops[j]?).bind (·.dst) with
    | some d => (match t d with
      | .bool b => some (b == want)
      | .tup _ => some false
      | _ => none)
    | none => some false

theorem aGuard_sound {C : Ctx} {N B : Nat} {ops : Array Oper} {t : Nat → LV} {a : Act} {o : Oper} {b : Bool} (r : RelS C N B t a) (h : aGuard ops t o = some b) : Region.wanted o (yielded ops a.tmps) = b := by
  unfold aGuard at h
  unfold Region.wanted
  split at h
  · rename_i hg; simp at h; subst h; simp [hg]
  · rename_i j want hg
    simp only [hg]
    split at h
    · rename_i d hd
      have hr := r.2.1 d
      unfold yielded
      rw [hd]
      simp only [Option.bind_some]
      split at h
      · rename_i b' hb
        rw [hb] at hr; simp only [RelV] at hr
        simp at h; subst h
        rw [Array.getD_eq_getD_getElem?] at hr
        cases hx : a.tmps[d]? with
        | none => rw [hx] at hr; simp [undef] at hr
        | some x => rw [hx] at hr; simp at hr; subst hr; simp
      · rename_i vs hb
        rw [hb] at hr; simp only [RelV] at hr
        obtain ⟨us, hr, _⟩ := hr
        simp at h; subst h
        rw [Array.getD_eq_getD_getElem?] at hr
        cases hx : a.tmps[d]? with
        | none => simp
        | some x => rw [hx] at hr; simp at hr; subst hr; simp
      · cases h
    · rename_i hd
      simp at h; subst h
      simp [yielded, hd]

/-- The callee of an operation: a Go function with its arguments; a yield; none. -/
inductive Callee' where
  | func (f : FuncId) (args : List LV)
  | yld (l : Nat) (args : List LV)
  | bad
  | no

def callee (o : Op) (t : Nat → LV) : Callee' := match o with
  | .call c => match c.callee with
    | .value f => match aev t f with
      | .fn (.func g) fa ca => .func g (fa ++ c.args.toList.map (aev t) ++ ca)
      | .yld l => .yld l (c.args.toList.map (aev t))
      | _ => .bad
    | .builtin _ => .no
    | _ => .bad
  | .defer _ | .go _ => .bad
  | _ => .no

/-- One operation, and what is to hold behind it. -/
def aOper (P : Program) (N : Nat) (ops : Array Oper) (o : Oper) (st : St) (K : St → Prop) (own : Bool := false) : Prop :=
  dOk N o.dst ∧ match aGuard ops st.t o with
  | some false => K { st with t := updO o.dst (.tup []) st.t }
  | some true => (match callee o.op st.t with
    | .func f args => aCalls P f args st.s st.v fun x s v => K ⟨updO o.dst x st.t, s, v⟩
    | .yld l args => aRound P l args st.s st.v fun x s v => K ⟨updO o.dst x st.t, s, v⟩
    | .bad => False
    | .no => match aopO P own o.op st with
      | some (x, s, v) => K ⟨updO o.dst x st.t, s, v⟩
      | none => False)
  | none => False
end Go.Hb
