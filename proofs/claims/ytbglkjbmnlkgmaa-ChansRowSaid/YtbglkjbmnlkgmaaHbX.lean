import Derived.Test.YtbglkjbmnlkgmaaHbW
namespace Go.Hb
open Go Go.RowKit

attribute [simp] Plan.qs
attribute [simp] aC aL aOper aGuard callee aop aev upd_apply initT dOk aThen aInBlock updO aUn aIf bodyQ aRes aResult packed ofVal ofVal1 aLoad aStore aNew aAlloc aPart aField aFieldAddr aIndexAddr aIndex aLen aMinMax aExtract aNil aBuiltin LV.cells LV.cellsOk setAt aPlan aq aWatch aConv notInt aHead aCells grow aAppend quietOp loadOp get_app get_app0 set_app set_app0

attribute [simp] aAppendOwn aClear aopO aopO_false
attribute [simp] aBin aBuild aFill aBuildSlice aMakeSlice aSlice aBounds oInt sliceR

def encI (l : List Int) : LV := .imm 1 l.length (l.map (.int .i64)) .no

/-- What reads as x reads as y, too. -/
def Weak (x y : LV) : Prop := ∀ C v, RelV C x v → RelV C y v
theorem Weak.refl (x : LV) : Weak x x := fun _ _ h => h
theorem Weak.trans {x y z : LV} (h : Weak x y) (k : Weak y z) : Weak x z := fun C v r => k C v (h C v r)
theorem Weak.imm (sz n : Nat) (cs : List LV) (r : Right) : Weak (.imm sz n cs r) (.imm sz n cs .no) := fun C v h => by
  simp only [RelV] at h ⊢
  obtain ⟨A, cap, e1, e2, e3, e4, e5, e6, e7, e8⟩ := h
  exact ⟨A, cap, e1, e2, e3, e4, e5, e6, e7, trivial⟩
theorem Weak.nils (sz : Nat) (r : Right) (hr : r = .no ∨ r = .full) : Weak .nils (.imm sz 0 [] r) := fun C v h => by
  simp only [RelV] at h ⊢; subst h
  refine ⟨none, 0, rfl, Nat.le_refl _, Nat.zero_le _, by simp, fun _ => by simp, (fun _ h => by cases h), (fun _ _ h => by cases h), ?_⟩
  rcases hr with rfl | rfl
  · trivial
  · simp [RelR]
theorem Weak.any (x : LV) : Weak x .any := fun C v _ => by simp [RelV]

def Weaks : List LV → List LV → Prop
  | [], [] => True
  | x :: xs, y :: ys => Weak x y ∧ Weaks xs ys
  | _, _ => False

theorem Weaks.refl : ∀ xs, Weaks xs xs
  | [] => trivial
  | x :: xs => ⟨Weak.refl x, Weaks.refl xs⟩

theorem Weaks.rel {C : Ctx} : ∀ {xs ys : List LV} {vs : List Value}, Weaks xs ys → RelVs C xs vs → RelVs C ys vs := by
  intro xs
  induction xs with
  | nil => intro ys vs h r; cases ys with | nil => exact r | cons => exact h.elim
  | cons x xs ih =>
    intro ys vs h r
    cases ys with
    | nil => exact h.elim
    | cons y ys =>
      obtain ⟨v, r', e1, e2, e3⟩ := r
      exact ⟨v, r', e1, h.1 _ _ e2, ih h.2 e3⟩

theorem Weaks.set : ∀ {xs ys : List LV} {i : Nat} {x y : LV}, Weaks xs ys → Weak x y → Weaks (xs.set i x) (ys.set i y) := by
  intro xs
  induction xs with
  | nil => intro ys i x y h _; cases ys with | nil => simp [Weaks] | cons => exact h.elim
  | cons a xs ih =>
    intro ys i x y h k
    cases ys with
    | nil => exact h.elim
    | cons b ys =>
      cases i with
      | zero => exact ⟨k, h.2⟩
      | succ i => exact ⟨h.1, ih h.2 k⟩

theorem Weak.agg {xs ys : List LV} (h : Weaks xs ys) : Weak (.agg xs) (.agg ys) := fun C v r => by
  simp only [RelV] at r ⊢
  obtain ⟨vs, e1, e2, e3⟩ := r
  exact ⟨vs, e1, h.rel e2, e3⟩
theorem Weak.tup {xs ys : List LV} (h : Weaks xs ys) : Weak (.tup xs) (.tup ys) := fun C v r => by
  simp only [RelV] at r ⊢
  obtain ⟨vs, e1, e2⟩ := r
  exact ⟨vs, e1, h.rel e2⟩

def WeakO : AObj → AObj → Prop
  | .cells xs, .cells ys => Weaks xs ys
  | x, y => x = y
theorem WeakO.refl (o : AObj) : WeakO o o := by cases o <;> simp [WeakO, Weaks.refl]

theorem WeakO.rel {C : Ctx} {o o' : AObj} {b : Nat} (h : WeakO o o') (r : RelO C o b) : RelO C o' b := by
  cases o with
  | cells xs =>
    cases o' with
    | cells ys =>
      obtain ⟨vs, T, us, ws, h1, h2, h3, h4⟩ := r
      exact ⟨vs, T, us, ws, h1, h2, Weaks.rel h h3, h4⟩
    | loop r' => simp [WeakO] at h
  | loop r' =>
    cases o' with
    | cells ys => simp [WeakO] at h
    | loop r2 => simp only [WeakO] at h; cases h; exact r

def WeakS (s s' : List AObj) : Prop := s.length = s'.length ∧ ∀ (i : Nat) (o o' : AObj), s[i]? = some o → s'[i]? = some o' → WeakO o o'
theorem WeakS.refl (s : List AObj) : WeakS s s := ⟨rfl, fun i o o' h h' => by rw [h] at h'; cases h'; exact WeakO.refl o⟩
theorem WeakS.trans {a b c : List AObj} (h : WeakS a b) (k : WeakS b c) (hw : ∀ x y z : AObj, WeakO x y → WeakO y z → WeakO x z) : WeakS a c := ⟨h.1.trans k.1, fun i o o' h1 h2 => by
  have hi : i < b.length := by rw [← h.1]; exact (List.getElem?_eq_some_iff.1 h1).1
  exact hw _ _ _ (h.2 i o b[i] h1 (by simp [hi])) (k.2 i b[i] o' (by simp [hi]) h2)⟩

theorem WeakS.set {s : List AObj} {id : Nat} {o o' : AObj} (h : WeakO o o') : WeakS (s.set id o) (s.set id o') := ⟨by simp, fun i x x' h1 h2 => by
  by_cases e : id = i
  · subst e
    have hl : id < s.length := by
      have := (List.getElem?_eq_some_iff.1 h1).1
      simpa using this
    simp [hl] at h1 h2
    subst h1; subst h2; exact h
  · rw [List.getElem?_set_ne e] at h1 h2
    rw [h1] at h2; cases h2; exact WeakO.refl x⟩

theorem Ok.weak {C : Ctx} {s s' : List AObj} (h : Ok C s) (hw : WeakS s s') : Ok C s' :=
  ⟨by rw [h.n, hw.1], fun i o ho => by
    have hi : i < s.length := by rw [hw.1]; exact (List.getElem?_eq_some_iff.1 ho).1
    exact WeakO.rel (hw.2 i s[i] o (by simp [hi]) ho) (h.obj i s[i] (by simp [hi])), h.inj, fun i hi => by
    obtain ⟨a, b, c⟩ := h.own i hi
    refine ⟨a, b.imp (fun hb => ?_) id, c⟩
    have hi' : i < s'.length := by rw [← hw.1, ← h.n]; exact hi
    have := hw.2 i _ s'[i] hb (by simp [hi'])
    have hx : s'[i] = .cells [] := by
      cases hq : s'[i] with
      | cells xs => rw [hq] at this; cases xs with | nil => rfl | cons => exact this.elim
      | loop r => rw [hq] at this; simp [WeakO] at this
    rw [List.getElem?_eq_getElem hi', hx], h.tip, h.tipinj, h.tipown, h.kept, h.lim⟩

theorem aCalls_weak {P : Program} {f : FuncId} {args : List LV} {s : List AObj} {v : List Nat} {R : LV → List AObj → List Nat → Prop}
    (h : aCalls P f args s v fun x s' v' => ∃ y s'', Weak x y ∧ WeakS s' s'' ∧ R y s'' v') : aCalls P f args s v R :=
  ⟨h.1, fun C vs h1 h2 h3 => (h.2 C vs h1 h2 h3).mono fun e w' ⟨C', x, u, s', v', k1, k2, k3, k4, k5, k6, y, s'', k7, k8, k9⟩ => ⟨C', y, u, s'', v', k1, k2, k3, k4.weak k8, k5, k7 _ _ k6, k9⟩⟩

/-- The frame may be known less exactly. -/
theorem aW_weak {P : Program} {r : Option Nat} {N : Nat} {c : Code} {Q : Exit → St → Prop} {st st' : St} (ht : ∀ i, Weak (st.t i) (st'.t i)) (hs : WeakS st.s st'.s) (hv : st.v = st'.v) (h : aW P r N c Q st') : aW P r N c Q st :=
  fun B C a h1 h2 h3 h4 => h B C a (h1.weak hs) (h2.trans hv) ⟨h3.1, fun i => ht i _ _ (h3.2.1 i), h3.2.2⟩ h4

/-! ### what was written is not written any more: an object becomes a value -/
def Ctx.freeze (C : Ctx) (id L : Nat) : Ctx := { C with lim := fun b => if b = C.ρ id then L else C.lim b }

theorem Ok.le_freeze {C : Ctx} {s : List AObj} (h : Ok C s) {id : Nat} (L : Nat) (hl : C.lim (C.ρ id) = 0) : C.le (C.freeze id L) where
  os := rfl
  tape := rfl
  output := rfl
  size := Nat.le_refl _
  kept _ h := h
  keep _ _ := rfl
  lim b := by
    simp only [Ctx.freeze]
    by_cases e : b = C.ρ id
    · rw [if_pos e, e, hl]; omega
    · rw [if_neg e]; exact Nat.le_refl _
  cell _ _ _ := rfl
  ρ _ _ := rfl
  n := Nat.le_refl _
  τ g e he := ⟨e, he, Nat.le_refl _, fun _ => rfl⟩

theorem Ok.freeze {C : Ctx} {s : List AObj} (h : Ok C s) {id L : Nat} (hid : id < s.length) (hl : C.lim (C.ρ id) = 0) {cs : List LV} (hs : s[id]? = some (.cells cs)) : Ok (C.freeze id L) (s.set id (.cells [])) where
  n := by simpa [Ctx.freeze] using h.n
  obj i o ho := by
    have hle := h.le_freeze L hl
    by_cases e : i = id
    · subst e
      simp [hid] at ho; subst ho
      obtain ⟨vs, T, us, ws, h1, h2, h3, h4⟩ := h.obj i _ hs
      exact ⟨vs, T, [], vs.toList, h1, by simp, rfl, by simp⟩
    · rw [List.getElem?_set_ne (by omega)] at ho
      exact RelO.mono hle rfl (h.obj i o ho)
  inj := h.inj
  own i hi := by
    obtain ⟨a, b, c⟩ := h.own i hi
    refine ⟨a, ?_, c⟩
    by_cases e : i = id
    · subst e; left; simp [hid]
    · have hin : id < C.n := by rw [h.n]; exact hid
      have hne : C.ρ i ≠ C.ρ id := fun e' => e (h.inj i id hi hin e')
      rcases b with b | b
      · left; rw [List.getElem?_set_ne (by omega)]; exact b
      · right; simp only [Ctx.freeze]; rw [if_neg hne]; exact b
  tip g hg := by
    obtain ⟨a, b, c⟩ := h.tip g hg
    have hne : (C.θ g).b ≠ C.ρ id := fun e => h.tipown g id hg (by rw [h.n]; exact hid) e.symm
    exact ⟨a, by simp only [Ctx.freeze]; rw [if_neg hne]; exact b, c⟩
  tipinj := h.tipinj
  tipown := h.tipown
  kept := h.kept
  lim b hb := by
    have := (h.own id (by rw [h.n]; exact hid)).2.2
    have hb' : C.w.heap.size ≤ b := hb
    simp only [Ctx.freeze]
    rw [if_neg (by intro e; rw [e] at hb'; omega)]
    exact h.lim b hb

theorem aCalls_freeze {P : Program} {f : FuncId} {args : List LV} {s : List AObj} {v : List Nat} {R : LV → List AObj → List Nat → Prop}
    (h : aCalls P f args s v fun x s' v' => ∃ sz id off len fl cs, x = .ref sz id off len fl ∧ s'[id]? = some (.cells cs) ∧ off + len * sz ≤ cs.length ∧ cs ≠ [] ∧ R (.imm sz len ((cs.drop off).take (len * sz)) .no) (s'.set id (.cells [])) v') : aCalls P f args s v R := by
  refine ⟨h.1, fun C vs h1 h2 h3 => (h.2 C vs h1 h2 h3).mono ?_⟩
  rintro e w' ⟨C', x, u, s', v', rfl, rfl, k3, k4, k5, k6, sz, id, off, len, fl, cs, rfl, k7, k8, k9, k10⟩
  simp only [RelV] at k6
  obtain ⟨q0, cap, rfl, q1, q2, q3⟩ := k6
  have hid : id < s'.length := by rw [← k4.n]; exact q0
  have hlim : C'.lim (C'.ρ id) = 0 := (k4.own id q0).2.1.resolve_left fun hb => by
    rw [k7] at hb; simp at hb; exact k9 hb
  have hle := k4.le_freeze (id := id) cs.length hlim
  obtain ⟨vs', T, us, ws, p1, p2, p3, p4⟩ := k4.obj id _ k7
  have pl := p3.length
  refine ⟨C'.freeze id cs.length, _, _, _, v', rfl, rfl, k3.trans hle, k4.freeze hid hlim k7, k5, ?_, k10⟩
  simp only [RelV]
  refine ⟨some ⟨C'.ρ id, off, none⟩, cap, rfl, q1, q2, by simp; omega, (by intro h; cases h), fun a ha => by cases ha; rfl, fun b o hb => ?_, trivial⟩
  cases hb
  refine RelCs.of_row (C := C'.freeze id cs.length) p1 _ ((us.drop off).take (len * sz)) off (((RelVs.mono hle _ _ p3).drop _).take _) (fun u hu => p4 u (List.mem_of_mem_drop (List.mem_of_mem_take hu))) (fun j u hj => ?_) ?_
  · have hj' := (List.getElem?_eq_some_iff.1 hj).1
    have hlt : j < len * sz := by simp at hj'; omega
    rw [List.getElem?_take_of_lt hlt, List.getElem?_drop] at hj
    have : vs'.toList[off + j]? = some u := by
      rw [p2, List.getElem?_append_left (List.getElem?_eq_some_iff.1 hj).1]; exact hj
    simpa using this
  · simp only [Ctx.freeze, if_true, List.length_take, List.length_drop]; omega

/-- An empty slice is nil, or not. -/
theorem aCalls_emp {P : Program} {f : FuncId} {sz : Nat} {r : Right} {args : List LV} {s : List AObj} {v : List Nat} {R : LV → List AObj → List Nat → Prop}
    (h1 : aCalls P f (.nils :: args) s v R) (h2 : aCalls P f (.emp sz :: args) s v R) : aCalls P f (.imm sz 0 [] r :: args) s v R := by
  refine ⟨h1.1, fun C vs k1 k2 k3 => ?_⟩
  obtain ⟨v0, r0, e0, e1, e2⟩ := k3
  simp only [RelV] at e1
  obtain ⟨A, cap, rfl, _, q2, _, q4, q5, _⟩ := e1
  cases A with
  | none =>
    have := (q4 rfl).2; subst this
    exact h1.2 C vs k1 k2 ⟨_, r0, e0, by simp [RelV], e2⟩
  | some a => exact h2.2 C vs k1 k2 ⟨_, r0, e0, by simp only [RelV]; exact ⟨a, cap, rfl, q2⟩, e2⟩

theorem aW_loopC {P : Program} {r : Option Nat} {N : Nat} {Q : Exit → St → Prop} {st : St} {c : Code} (own : Bool) (I : St → Prop) (μ : St → Nat) (h0 : I st)
    (round : ∀ t s v, I ⟨t, s, v⟩ → aC P r N own c (aThen (fun st' => I st' ∧ μ st' < μ ⟨t, s, v⟩) Q) ⟨t, s, v⟩) : aW P r N (.loop c) Q st :=
  aW_loop I μ h0 fun st hI => aC_sound _ _ _ (round st.t st.s st.v hI)

/-- The number in a slot. -/
def numOf : LV → Nat
  | .int _ n => n.toNat
  | _ => 0

theorem noext {v v' : List Nat} {g e : Nat} (h : v <+: v') (hg : v[g]? = some e) : v'[g]? = some e := by
  obtain ⟨t, rfl⟩ := h
  rw [List.getElem?_append_left (List.getElem?_eq_some_iff.1 hg).1]; exact hg
end Go.Hb
