import Derived.Test.YtbglkjbmnlkgmaaHbA
namespace Go.Hb
open Go Go.RowKit

structure ALoop where
  state : LoopState
  pending : Option Code
  tmps : Nat → LV
  size : Nat
  params : Array Tmp
  assign : Code
  body : Code

inductive AObj where
  | cells (cs : List LV)
  | loop (r : ALoop)

def RelT (C : Ctx) (t : Nat → LV) (tmps : Array Value) : Prop := ∀ i, RelV C (t i) (tmps.getD i undef)

def RelO (C : Ctx) : AObj → Nat → Prop
  | .cells cs, b => ∃ (vs : Array Value) (T : TypeId) (us ws : List Value), C.w.heap[b]? = some (.cells vs T (0, 0)) ∧ vs.toList = us ++ ws ∧ RelVs C cs us ∧ ∀ u ∈ us, u.oneCell' = true
  | .loop r, b => ∃ L : Loop, C.w.heap[b]? = some (.loop L) ∧ L.state = r.state ∧ L.pending = r.pending ∧ L.params = r.params ∧ L.assign = r.assign ∧ L.body = r.body ∧ L.tmps.size = r.size ∧ RelT C r.tmps L.tmps

structure Ok (C : Ctx) (s : List AObj) : Prop where
  n : C.n = s.length
  obj : ∀ i o, s[i]? = some o → RelO C o (C.ρ i)
  inj : ∀ i j, i < C.n → j < C.n → C.ρ i = C.ρ j → i = j
  own : ∀ i, i < C.n → ¬ C.kept (C.ρ i) ∧ (s[i]? = some (.cells []) ∨ C.lim (C.ρ i) = 0) ∧ C.ρ i < C.w.heap.size
  tip : ∀ g, g < C.τ.length → ¬ C.kept (C.θ g).b ∧ C.lim (C.θ g).b ≤ (C.θ g).stop ∧ ∃ (vs : Array Value) (T : TypeId), C.w.heap[(C.θ g).b]? = some (.cells vs T (0, 0)) ∧ (C.θ g).stop + (C.θ g).rem * (C.θ g).sz ≤ vs.size
  tipinj : ∀ g g', g < C.τ.length → g' < C.τ.length → (C.θ g).b = (C.θ g').b → g = g'
  tipown : ∀ g i, g < C.τ.length → i < C.n → C.ρ i ≠ (C.θ g).b
  kept : ∀ b, C.kept b → b < C.w.heap.size
  lim : ∀ b, C.w.heap.size ≤ b → C.lim b = 0

structure St where
  t : Nat → LV
  s : List AObj
  v : List Nat

def upd (d : Nat) (x : LV) (t : Nat → LV) : Nat → LV := fun i => if i = d then x else t i
def updO (d : Option Tmp) (x : LV) (t : Nat → LV) : Nat → LV := match d with | some d => upd d x t | none => t

theorem RelT.mono {C C' : Ctx} (h : C.le C') {t : Nat → LV} {tmps : Array Value} (r : RelT C t tmps) : RelT C' t tmps := fun i => RelV.mono h _ _ (r i)

theorem RelT.upd {C : Ctx} {t : Nat → LV} {tmps : Array Value} (r : RelT C t tmps) {d : Nat} {x : LV} {v : Value} (hd : d < tmps.size) (hx : RelV C x v) : RelT C (Hb.upd d x t) (tmps.setIfInBounds d v) := by
  intro i
  unfold Hb.upd
  by_cases h : i = d
  · subst h; simp [Array.getD_eq_getD_getElem?, hd, hx]
  · have := r i
    simp only [h, if_false]
    rw [Array.getD_eq_getD_getElem?, Array.getElem?_setIfInBounds_ne (by omega), ← Array.getD_eq_getD_getElem?]
    exact this

/-! ### Values of constants -/
def ofVal1 : Value → Option LV
  | .bool b => some (.bool b)
  | .int k n => some (.int k n)
  | .string s => some (.str s)
  | .pointer none => some .nilp
  | .slice none 0 0 => some .nils
  | .nilFunc => some .nilf
  | .map none => some .nilm
  | _ => none
def ofVal : Value → Option LV
  | .agg cs => (cs.toList.mapM ofVal1).map .agg
  | v => ofVal1 v

theorem ofVal1_rel (C : Ctx) : ∀ (v : Value) (x : LV), ofVal1 v = some x → RelV C x v ∧ v.oneCell' = true := by
  intro v x h
  unfold ofVal1 at h
  split at h <;> simp at h <;> subst h <;> simp [RelV, Value.oneCell']

theorem mapM_ofVal1 (C : Ctx) : ∀ (vs : List Value) (xs : List LV), vs.mapM ofVal1 = some xs → RelVs C xs vs ∧ ∀ u ∈ vs, u.oneCell' = true := by
  intro vs
  induction vs with
  | nil => intro xs h; simp at h; subst h; simp [RelVs]
  | cons v vs ih =>
    intro xs h
    simp only [List.mapM_cons, Option.bind_eq_bind, Option.bind_eq_some_iff, Option.pure_def, Option.some.injEq] at h
    obtain ⟨y, hy, ys, hys, rfl⟩ := h
    obtain ⟨h1, h2⟩ := ofVal1_rel C v y hy
    obtain ⟨h3, h4⟩ := ih ys hys
    refine ⟨⟨v, vs, rfl, h1, h3⟩, ?_⟩
    simp [h2]
    exact h4

theorem ofVal_rel (C : Ctx) (v : Value) (x : LV) (h : ofVal v = some x) : RelV C x v := by
  unfold ofVal at h
  split at h
  · rename_i cs
    simp only [Option.map_eq_some_iff] at h
    obtain ⟨xs, h1, rfl⟩ := h
    obtain ⟨h2, h3⟩ := mapM_ofVal1 C _ _ h1
    simp only [RelV]
    exact ⟨cs, rfl, h2, by simpa using h3⟩
  · exact (ofVal1_rel C v x h).1

def aev (t : Nat → LV) : Operand → LV
  | .tmp i => t i
  | .const v => (ofVal v).getD .any
  | .global _ => .any
  | .func f => .fn (.func f) [] []

theorem aev_rel {C : Ctx} {t : Nat → LV} {a : Act} (r : RelT C t a.tmps) (x : Operand) : RelV C (aev t x) (a.eval x) := by
  cases x with
  | tmp i => exact r i
  | const v =>
    simp only [aev, Act.eval]
    cases h : ofVal v with
    | none => simp [RelV]
    | some x => exact ofVal_rel C v x h
  | global g => simp [aev, RelV]
  | func f => simp [aev, Act.eval, RelV, RelVs]

def LV.isCell : LV → Bool
  | .any | .agg _ | .tup _ => false
  | _ => true
def LV.cells : LV → List LV
  | .agg cs => cs
  | x => [x]
def LV.cellsOk : LV → Bool
  | .any | .tup _ => false
  | _ => true

theorem isCell_one {C : Ctx} : ∀ {x : LV} {v : Value}, x.isCell = true → RelV C x v → v.oneCell' = true ∧ v.cells = #[v] := by
  intro x v hx h
  cases x <;> simp [LV.isCell] at hx <;> simp only [RelV] at h
  case bool => subst h; simp [Value.oneCell', Value.cells]
  case int => subst h; simp [Value.oneCell', Value.cells]
  case str => subst h; simp [Value.oneCell', Value.cells]
  case nilp => subst h; simp [Value.oneCell', Value.cells]
  case ptr => obtain ⟨_, rfl⟩ := h; simp [Value.oneCell', Value.cells]
  case eptr => obtain ⟨b, o, rfl, _⟩ := h; simp [Value.oneCell', Value.cells]
  case nils => subst h; simp [Value.oneCell', Value.cells]
  case emp => obtain ⟨a, cap, rfl, _⟩ := h; simp [Value.oneCell', Value.cells]
  case imm => obtain ⟨A, cap, rfl, _⟩ := h; simp [Value.oneCell', Value.cells]
  case ref => obtain ⟨_, cap, rfl, _⟩ := h; simp [Value.oneCell', Value.cells]
  case nilf => subst h; simp [Value.oneCell', Value.cells]
  case fn => obtain ⟨fs, cs, rfl, _⟩ := h; simp [Value.oneCell', Value.cells]
  case yld => obtain ⟨_, rfl⟩ := h; simp [Value.oneCell', Value.cells]
  case nilm => subst h; simp [Value.oneCell', Value.cells]
  case mapr => obtain ⟨_, rfl⟩ := h; simp [Value.oneCell', Value.cells]

theorem RelVs.one {C : Ctx} {x : LV} {v : Value} (h : RelV C x v) : RelVs C [x] [v] := ⟨v, [], rfl, h, rfl⟩

theorem cellsOk_rel {C : Ctx} {x : LV} {v : Value} (hx : x.cellsOk = true) (h : RelV C x v) : RelVs C x.cells v.cells.toList ∧ ∀ u ∈ v.cells.toList, u.oneCell' = true := by
  by_cases hc : x.isCell = true
  · obtain ⟨h1, h2⟩ := isCell_one hc h
    have : x.cells = [x] := by cases x <;> simp [LV.isCell] at hc <;> rfl
    rw [this, h2]
    refine ⟨RelVs.one h, ?_⟩
    simp [h1]
  · cases x <;> simp [LV.isCell] at hc <;> simp [LV.cellsOk] at hx
    simp only [RelV] at h
    obtain ⟨vs, rfl, h1, h2⟩ := h
    exact ⟨h1, by simpa [Value.cells] using h2⟩

theorem RelVs.length {C : Ctx} : ∀ {xs : List LV} {vs : List Value}, RelVs C xs vs → xs.length = vs.length := by
  intro xs
  induction xs with
  | nil => intro vs h; simp [RelVs] at h; simp [h]
  | cons x xs ih => intro vs h; obtain ⟨v, r, rfl, _, h2⟩ := h; simp [ih h2]

theorem RelVs.get {C : Ctx} : ∀ {xs : List LV} {vs : List Value}, RelVs C xs vs → ∀ {i : Nat} {x : LV}, xs[i]? = some x → ∃ v, vs[i]? = some v ∧ RelV C x v := by
  intro xs
  induction xs with
  | nil => intro vs h i x hx; simp at hx
  | cons y xs ih =>
    intro vs h i x hx
    obtain ⟨v, r, rfl, h1, h2⟩ := h
    cases i with
    | zero => simp at hx; subst hx; exact ⟨v, by simp, h1⟩
    | succ i => simp at hx; simpa using ih h2 hx

theorem RelVs.app {C : Ctx} : ∀ {xs : List LV} {vs : List Value} {ys : List LV} {us : List Value}, RelVs C xs vs → RelVs C ys us → RelVs C (xs ++ ys) (vs ++ us) := by
  intro xs
  induction xs with
  | nil => intro vs ys us h k; simp [RelVs] at h; subst h; simpa using k
  | cons x xs ih => intro vs ys us h k; obtain ⟨v, r, rfl, h1, h2⟩ := h; exact ⟨v, r ++ us, rfl, h1, ih h2 k⟩

theorem RelVs.split {C : Ctx} : ∀ {xs ys : List LV} {vs : List Value}, RelVs C (xs ++ ys) vs → ∃ us ws, vs = us ++ ws ∧ RelVs C xs us ∧ RelVs C ys ws := by
  intro xs
  induction xs with
  | nil => intro ys vs h; exact ⟨[], vs, rfl, rfl, h⟩
  | cons x xs ih =>
    intro ys vs h
    obtain ⟨v, r, rfl, h1, h2⟩ := h
    obtain ⟨us, ws, rfl, h3, h4⟩ := ih h2
    exact ⟨v :: us, ws, rfl, ⟨v, us, rfl, h1, h3⟩, h4⟩

theorem RelVs.set {C : Ctx} : ∀ {xs : List LV} {vs : List Value}, RelVs C xs vs → ∀ {i : Nat} {x : LV} {v : Value}, RelV C x v → RelVs C (xs.set i x) (vs.set i v) := by
  intro xs
  induction xs with
  | nil => intro vs h i x v hx; simp [RelVs] at h; subst h; simp [RelVs]
  | cons y xs ih =>
    intro vs h i x v hx
    obtain ⟨u, r, rfl, h1, h2⟩ := h
    cases i with
    | zero => exact ⟨v, r, rfl, hx, h2⟩
    | succ i => exact ⟨u, r.set i v, rfl, h1, ih h2 hx⟩

theorem RelVs.take {C : Ctx} {xs : List LV} {vs : List Value} (h : RelVs C xs vs) (n : Nat) : RelVs C (xs.take n) (vs.take n) := by
  have h' : RelVs C (xs.take n ++ xs.drop n) vs := by rw [List.take_append_drop]; exact h
  obtain ⟨us, ws, rfl, h1, h2⟩ := h'.split
  have := h1.length
  by_cases hn : n ≤ xs.length
  · have e : n = us.length := by simp at this; omega
    have e2 : (us ++ ws).take n = us := by rw [e]; simp
    rw [e2]; exact h1
  · have h3 : xs.drop n = [] := by simp; omega
    have h4 : xs.take n = xs := List.take_of_length_le (by omega)
    rw [h3] at h2
    simp [RelVs] at h2; subst h2
    rw [h4] at h1 this ⊢
    rw [List.append_nil, List.take_of_length_le (by omega)]
    exact h1

theorem RelVs.drop {C : Ctx} {xs : List LV} {vs : List Value} (h : RelVs C xs vs) (n : Nat) : RelVs C (xs.drop n) (vs.drop n) := by
  have h' : RelVs C (xs.take n ++ xs.drop n) vs := by rw [List.take_append_drop]; exact h
  obtain ⟨us, ws, rfl, h1, h2⟩ := h'.split
  have := h1.length
  by_cases hn : n ≤ xs.length
  · simp at this
    have e : n = us.length := by omega
    subst e
    simpa using h2
  · have h3 : xs.drop n = [] := by simp; omega
    rw [h3] at h2 ⊢
    simp [RelVs] at h2; subst h2
    simp at this
    simp [RelVs]; omega

end Go.Hb
