import Derived.Test.YtbglkjbmnlkgmaaHbR
namespace Go.Hb
open Go Go.RowKit

/-! ### a region that draws its order -/
def quietOp : Op → Bool
  | .move _ | .assign _ | .pick .. | .build .. | .buildSlice .. | .load .. | .nilCheck _ | .binOp .. | .unOp .. | .convert .. | .makeFunc .. | .slice .. | .fieldAddr .. | .field .. | .indexAddr .. | .index .. | .extract .. => true
  | .call c => match c.callee with
    | .builtin .len | .builtin .min | .builtin .max => true
    | _ => false
  | _ => false
def loadOp : Op → Bool
  | .load .. => true
  | _ => false

/-- A quiet operation's value. -/
def aq (P : Program) (ops : Array Oper) (o : Oper) (st : St) : Option LV := match aGuard ops st.t o with
  | some false => some (.tup [])
  | some true => (aop P o.op st).map (·.1)
  | none => none

theorem aop_quiet {P : Program} {o : Op} {st : St} {x : LV} {s : List AObj} {v : List Nat} (hq : quietOp o = true) (h : aop P o st = some (x, s, v)) : s = st.s ∧ v = st.v := by
  unfold aop at h
  cases o <;> simp only [quietOp] at hq <;> simp only at h <;> (try (cases hq; done)) <;> (try (simp only [Option.map_eq_some_iff] at h; obtain ⟨y, _, h2⟩ := h; simp only [Prod.mk.injEq] at h2; exact ⟨h2.2.1.symm, h2.2.2.symm⟩)) <;> (try (simp only [Option.some.injEq, Prod.mk.injEq] at h; exact ⟨h.2.1.symm, h.2.2.symm⟩))
  · split at h
    · simp only [Option.some.injEq, Prod.mk.injEq] at h; exact ⟨h.2.1.symm, h.2.2.symm⟩
    · cases h
  · rename_i c
    obtain ⟨cal, args, ats⟩ := c
    cases cal <;> simp only at hq h <;> (try (cases hq; done))
    rename_i b
    unfold aBuiltin at h
    split at h
    · simp only [Option.map_eq_some_iff] at h; obtain ⟨y, _, h2⟩ := h; simp only [Prod.mk.injEq] at h2; exact ⟨h2.2.1.symm, h2.2.2.symm⟩
    · cases hq
    · cases hq
    · simp only [Option.map_eq_some_iff] at h; obtain ⟨y, _, h2⟩ := h; simp only [Prod.mk.injEq] at h2; exact ⟨h2.2.1.symm, h2.2.2.symm⟩
    · simp only [Option.map_eq_some_iff] at h; obtain ⟨y, _, h2⟩ := h; simp only [Prod.mk.injEq] at h2; exact ⟨h2.2.1.symm, h2.2.2.symm⟩
    · cases h

theorem aop_pure {P : Program} {o : Op} {t : Nat → LV} {s s' : List AObj} {v v' : List Nat} (hq : quietOp o = true) (hl : loadOp o = false) : (aop P o ⟨t, s, v⟩).map (·.1) = (aop P o ⟨t, s', v'⟩).map (·.1) := by
  unfold aop
  cases o <;> simp only [quietOp] at hq <;> simp only [loadOp] at hl <;> (try (cases hq; done)) <;> (try (cases hl; done)) <;> simp only [Option.map_map, Option.map_some] <;> (try rfl)
  · split <;> rfl
  · rename_i c
    obtain ⟨cal, args, ats⟩ := c
    cases cal <;> simp only at hq <;> (try (cases hq; done))
    rename_i b
    simp only
    unfold aBuiltin
    split <;> simp only [Option.map_map, Option.map_none] <;> (first | rfl | cases hq)

theorem map_congr' {l : List Operand} {t t' : Nat → LV} (h : ∀ x ∈ l, aev t x = aev t' x) : l.map (aev t) = l.map (aev t') := List.map_congr_left h

theorem aop_congr {P : Program} {o : Op} {t t' : Nat → LV} {s : List AObj} {v : List Nat} (h : ∀ x ∈ o.operands, aev t x = aev t' x) : aop P o ⟨t, s, v⟩ = aop P o ⟨t', s, v⟩ := by
  unfold aop
  cases o <;> simp only [Op.operands] at h <;> (try rfl)
  case move x => simp only [h x (by simp)]
  case assign x => simp only [h x (by simp)]
  case pick c a b => simp only [h c (by simp), h a (by simp), h b (by simp)]
  case box e x => simp only [h x (by simp)]
  case build ty parts =>
    have : (parts.toList.map fun p => (p.1, aev t p.2)) = parts.toList.map fun p => (p.1, aev t' p.2) := List.map_congr_left fun p hp => by
      rw [h p.2 (by simp only [List.mem_toArray, List.mem_map]; exact ⟨p, hp, rfl⟩)]
    simp only [this]
  case buildSlice ty len parts =>
    have : (parts.toList.map fun p => (p.1, aev t p.2)) = parts.toList.map fun p => (p.1, aev t' p.2) := List.map_congr_left fun p hp => by
      rw [h p.2 (by simp only [List.mem_toArray, List.mem_map]; exact ⟨p, hp, rfl⟩)]
    simp only [this]
  case load ty a => simp only [h a (by simp)]
  case store ty a x => simp only [h a (by simp), h x (by simp)]
  case nilCheck x => simp only [h x (by simp)]
  case binOp op ty x y ty' => simp only [h x (by simp), h y (by simp)]
  case unOp op ty x => simp only [h x (by simp)]
  case convert a b x => simp only [h x (by simp)]
  case makeFunc f a b =>
    have e1 := map_congr' fun x hx => h x (Array.mem_append.2 (.inl (Array.mem_toList_iff.1 hx)))
    have e2 := map_congr' fun x hx => h x (Array.mem_append.2 (.inr (Array.mem_toList_iff.1 hx)))
    simp only [e1, e2]
  case makeSlice ty l c => simp only [h l (by simp), h c (by simp)]
  case slice ty x lo hi mx =>
    have e1 : lo.map (aev t) = lo.map (aev t') := by cases lo with | none => rfl | some y => simp only [Option.map_some, h y (by simp)]
    have e2 : hi.map (aev t) = hi.map (aev t') := by cases hi with | none => rfl | some y => simp only [Option.map_some, h y (by simp)]
    have e3 : mx.map (aev t) = mx.map (aev t') := by cases mx with | none => rfl | some y => simp only [Option.map_some, h y (by simp)]
    simp only [h x (by simp), e1, e2, e3]
  case fieldAddr ty x f => simp only [h x (by simp)]
  case field ty x f => simp only [h x (by simp)]
  case indexAddr ty x i => simp only [h x (by simp), h i (by simp)]
  case index ty x i => simp only [h x (by simp), h i (by simp)]
  case extract x i => simp only [h x (by simp)]
  case call c =>
    have e : c.args.toList.map (aev t) = c.args.toList.map (aev t') := map_congr' fun x hx => h x (by
      simp only [Call.operands, Array.mem_append]; exact .inr (Array.mem_toList_iff.1 hx))
    simp only
    split
    · simp only [e, aBuiltin]
    · rfl

def reads (ops : Array Oper) (o : Oper) : List Tmp := o.op.operands.toList.filterMap (fun | .tmp d => some d | _ => none) ++ (match o.guard with | some (j, _) => (match (ops[j]?).bind (·.dst) with | some d => [d] | none => []) | none => [])

theorem aev_congr {t t' : Nat → LV} {x : Operand} (h : ∀ d, x = .tmp d → t d = t' d) : aev t x = aev t' x := by
  cases x with
  | tmp d => exact h d rfl
  | _ => rfl

theorem operands_congr {ops : Array Oper} {o : Oper} {t t' : Nat → LV} (h : ∀ d ∈ reads ops o, t d = t' d) : ∀ x ∈ o.op.operands, aev t x = aev t' x := by
  intro x hx
  refine aev_congr fun d e => h d ?_
  subst e
  exact List.mem_append_left _ (List.mem_filterMap.2 ⟨.tmp d, Array.mem_toList_iff.2 hx, rfl⟩)

theorem guard_congr {ops : Array Oper} {o : Oper} {t t' : Nat → LV} (h : ∀ d ∈ reads ops o, t d = t' d) : aGuard ops t o = aGuard ops t' o := by
  unfold aGuard
  cases hg : o.guard with
  | none => rfl
  | some p =>
    obtain ⟨j, want⟩ := p
    simp only
    cases hd : (ops[j]?).bind (·.dst) with
    | none => rfl
    | some d =>
      have := h d (List.mem_append_right _ (by simp [hg, hd]))
      simp only [this]

theorem aq_congr {P : Program} {ops : Array Oper} {o : Oper} {t t' : Nat → LV} {s : List AObj} {v : List Nat} (h : ∀ d ∈ reads ops o, t d = t' d) : aq P ops o ⟨t, s, v⟩ = aq P ops o ⟨t', s, v⟩ := by
  unfold aq
  simp only [guard_congr h, aop_congr (operands_congr h)]

theorem aq_pure {P : Program} {ops : Array Oper} {o : Oper} {t : Nat → LV} {s s' : List AObj} {v v' : List Nat} (hq : quietOp o.op = true) (hl : loadOp o.op = false) : aq P ops o ⟨t, s, v⟩ = aq P ops o ⟨t, s', v'⟩ := by
  unfold aq
  simp only [aop_pure (s := s) (s' := s') (v := v) (v' := v') hq hl]

theorem callee_congr {ops : Array Oper} {o : Oper} {t t' : Nat → LV} (h : ∀ d ∈ reads ops o, t d = t' d) : callee o.op t = callee o.op t' := by
  have h1 := operands_congr h
  unfold callee
  cases ho : o.op <;> (try rfl)
  rename_i c
  rw [ho] at h1
  simp only [Op.operands] at h1
  have e : c.args.toList.map (aev t) = c.args.toList.map (aev t') := map_congr' fun x hx => h1 x (by
      simp only [Call.operands, Array.mem_append]; exact .inr (Array.mem_toList_iff.1 hx))
  simp only
  cases hc : c.callee <;> simp only
  rename_i f
  have ef : aev t f = aev t' f := h1 f (by simp [Call.operands, hc])
  rw [ef, e]

theorem aopO_congr {P : Program} {own : Bool} {o : Op} {t t' : Nat → LV} {s : List AObj} {v : List Nat} (h : ∀ x ∈ o.operands, aev t x = aev t' x) : aopO P own o ⟨t, s, v⟩ = aopO P own o ⟨t', s, v⟩ := by
  unfold aopO
  split
  · rename_i c
    have e : c.args.toList.map (aev t) = c.args.toList.map (aev t') := map_congr' fun x hx => h x (by
      simp only [Op.operands, Call.operands, Array.mem_append]; exact .inr (Array.mem_toList_iff.1 hx))
    simp only [e, aop_congr h]
  · exact aop_congr h
theorem aopO_false (P : Program) (o : Op) (st : St) : aopO P false o st = aop P o st := by
  unfold aopO; rfl
end Go.Hb
