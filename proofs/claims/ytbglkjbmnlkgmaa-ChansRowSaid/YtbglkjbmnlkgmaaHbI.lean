import Derived.Test.YtbglkjbmnlkgmaaHbH
namespace Go.Hb
open Go Go.RowKit

theorem RelCs.app {C : Ctx} {b : Nat} : ∀ {xs ys : List LV} {o : Nat}, RelCs C b xs o → RelCs C b ys (o + xs.length) → RelCs C b (xs ++ ys) o := by
  intro xs
  induction xs with
  | nil => intro ys o _ h; simpa using h
  | cons x xs ih => intro ys o h k; exact ⟨h.1, ih h.2 (by simpa [Nat.add_assoc, Nat.add_comm 1] using k)⟩

/-! ### a tip in a new block -/
def Ctx.tipNew (C : Ctx) (vs : Array Value) (T : TypeId) (L rem sz g : Nat) (τ' : List Nat) : Ctx :=
  { C with w := C.w.drew.alloc (.cells vs T), lim := fun b => if b = C.w.heap.size then L else C.lim b, τ := τ', θ := fun g' => if g' = g then ⟨C.w.heap.size, L, rem, sz⟩ else C.θ g' }

/-- How a tip's versions go on. -/
def TipStep (τ : List Nat) (g : Nat) (τ' : List Nat) : Prop := (g = τ.length ∧ τ' = τ ++ [0]) ∨ (∃ e, τ[g]? = some e ∧ τ' = τ.set g (e + 1))

theorem TipStep.lt {τ τ' : List Nat} {g : Nat} (h : TipStep τ g τ') {g' : Nat} (hg : g' < τ'.length) (hne : g' ≠ g) : g' < τ.length := by
  rcases h with ⟨rfl, rfl⟩ | ⟨e, he, rfl⟩
  · simp at hg; omega
  · simpa using hg

theorem TipStep.old {τ τ' : List Nat} {g : Nat} (h : TipStep τ g τ') {g' e : Nat} (he : τ[g']? = some e) : ∃ e', τ'[g']? = some e' ∧ e ≤ e' ∧ (e' = e → g' ≠ g) := by
  have hlt := (List.getElem?_eq_some_iff.1 he).1
  rcases h with ⟨rfl, rfl⟩ | ⟨e0, he0, rfl⟩
  · exact ⟨e, by rw [List.getElem?_append_left hlt]; exact he, Nat.le_refl _, fun _ => by omega⟩
  · by_cases e1 : g' = g
    · subst e1
      rw [he] at he0; cases he0
      exact ⟨e + 1, by simp [hlt], by omega, fun h => by omega⟩
    · exact ⟨e, by rw [List.getElem?_set_ne (by omega)]; exact he, Nat.le_refl _, fun _ => e1⟩

theorem Ok.le_tipNew {C : Ctx} {s : List AObj} (h : Ok C s) (vs : Array Value) (T : TypeId) (L rem sz g : Nat) {τ' : List Nat} (ht : TipStep C.τ g τ') : C.le (C.tipNew vs T L rem sz g τ') where
  os := rfl
  tape := rfl
  output := rfl
  size := by simp [Ctx.tipNew]
  kept b hb := hb
  keep b hb := heap_old C.w.drew _ _ (h.kept b hb)
  lim b := by
    simp only [Ctx.tipNew]
    by_cases e : b = C.w.heap.size
    · have := h.lim b (by omega); simp [e] at this ⊢; omega
    · simp [e]
  cell b o' ho := (World.cell?_alloc_lt C.w.drew _ _ (h.cell_lt ho)).trans rfl
  ρ i hi := rfl
  n := Nat.le_refl _
  τ g' e he := by
    obtain ⟨e', h1, h2, h3⟩ := ht.old he
    exact ⟨e', h1, h2, fun e1 => by simp [Ctx.tipNew, h3 e1]⟩

theorem Ok.tipNew {C : Ctx} {s : List AObj} (h : Ok C s) (vs : Array Value) (T : TypeId) (L rem sz g : Nat) {τ' : List Nat} (ht : TipStep C.τ g τ') (hl : L + rem * sz ≤ vs.size) : Ok (C.tipNew vs T L rem sz g τ') s where
  n := h.n
  obj i a ha := by
    have hin : i < C.n := by rw [h.n]; exact (List.getElem?_eq_some_iff.1 ha).1
    exact RelO.mono (h.le_tipNew vs T L rem sz g ht) (heap_old C.w.drew _ _ (h.own i hin).2.2) (h.obj i a ha)
  inj := h.inj
  own i hi := by
    obtain ⟨a, b, c⟩ := h.own i hi
    refine ⟨a, b.imp id fun b => ?_, by simp [Ctx.tipNew]; omega⟩
    have : C.ρ i ≠ C.w.heap.size := by omega
    simpa [Ctx.tipNew, this] using b
  tip g' hg := by
    by_cases e : g' = g
    · subst e
      simp only [Ctx.tipNew, if_true]
      refine ⟨fun hk => ?_, Nat.le_refl _, vs, T, heap_new C.w.drew _, hl⟩
      have := h.kept _ hk; omega
    · have hg' := ht.lt hg e
      obtain ⟨a, b, vs', T', c, d⟩ := h.tip g' hg'
      have hb := h.tip_lt hg'
      have hne : (C.θ g').b ≠ C.w.heap.size := by omega
      simp only [Ctx.tipNew, e, if_false]
      exact ⟨a, by simpa [hne] using b, vs', T', (heap_old C.w.drew _ _ hb).trans c, d⟩
  tipinj g1 g2 h1 h2 e := by
    by_cases e1 : g1 = g <;> by_cases e2 : g2 = g <;> simp only [Ctx.tipNew, e1, e2, if_true, if_false] at e
    · omega
    · have := h.tip_lt (ht.lt h2 e2); omega
    · have := h.tip_lt (ht.lt h1 e1); omega
    · exact h.tipinj g1 g2 (ht.lt h1 e1) (ht.lt h2 e2) e
  tipown g' i hg hi := by
    by_cases e : g' = g
    · subst e
      simp only [Ctx.tipNew, if_true]
      have := (h.own i hi).2.2; omega
    · simp only [Ctx.tipNew, e, if_false]
      exact h.tipown g' i (ht.lt hg e) hi
  kept b hb := by have := h.kept b hb; simp [Ctx.tipNew]; omega
  lim b hb := by
    simp only [Ctx.tipNew, World.size_alloc, World.size_drew] at hb ⊢
    rw [if_neg (by omega)]
    exact h.lim b (by omega)

/-! ### a tip that grows in its place -/
def Ctx.tipGrow (C : Ctx) (vs : Array Value) (g e L rem : Nat) : Ctx :=
  { C with w := C.w.setRow (C.θ g).b vs, lim := fun b => if b = (C.θ g).b then L else C.lim b, τ := C.τ.set g (e + 1), θ := fun g' => if g' = g then ⟨(C.θ g).b, L, rem, (C.θ g).sz⟩ else C.θ g' }

theorem Ok.le_tipGrow {C : Ctx} {s : List AObj} (h : Ok C s) {g e : Nat} (hg : C.τ[g]? = some e) {old vs : Array Value} {T : TypeId} (hold : C.w.heap[(C.θ g).b]? = some (.cells old T (0, 0)))
    (hsame : ∀ o, o < (C.θ g).stop → vs[o]? = old[o]?) {L : Nat} (hL : (C.θ g).stop ≤ L) (rem : Nat) : C.le (C.tipGrow vs g e L rem) where
  os := rfl
  tape := rfl
  output := rfl
  size := by simp [Ctx.tipGrow]
  kept b hb := hb
  keep b hb := setRow_other _ _ _ _ (by intro e'; subst e'; exact (h.tip g (List.getElem?_eq_some_iff.1 hg).1).1 hb)
  lim b := by
    simp only [Ctx.tipGrow]
    by_cases e : b = (C.θ g).b
    · have := (h.tip g (List.getElem?_eq_some_iff.1 hg).1).2.1; simp [e]; omega
    · simp [e]
  cell b o ho := by
    by_cases e : b = (C.θ g).b
    · subst e
      have := (h.tip g (List.getElem?_eq_some_iff.1 hg).1).2.1
      have h1 : (C.w.setRow (C.θ g).b vs).heap[(C.θ g).b]? = some (.cells vs T (0, 0)) := setRow_heap _ _ _ _ _ _ hold
      show (C.w.setRow (C.θ g).b vs).cell? _ = _
      simp [World.cell?, h1, hold, hsame o (by omega)]
    · exact cell_setRow_other _ _ _ _ (by simpa using e)
  ρ i hi := rfl
  n := Nat.le_refl _
  τ g' e' he := by
    obtain ⟨e1, h1, h2, h3⟩ := (TipStep.old (.inr ⟨e, hg, rfl⟩) he : ∃ e1, (C.τ.set g (e + 1))[g']? = some e1 ∧ e' ≤ e1 ∧ (e1 = e' → g' ≠ g))
    exact ⟨e1, h1, h2, fun e2 => by simp [Ctx.tipGrow, h3 e2]⟩

theorem Ok.tipGrow {C : Ctx} {s : List AObj} (h : Ok C s) {g e : Nat} (hg : C.τ[g]? = some e) {old vs : Array Value} {T : TypeId} (hold : C.w.heap[(C.θ g).b]? = some (.cells old T (0, 0)))
    (hsame : ∀ o, o < (C.θ g).stop → vs[o]? = old[o]?) {L : Nat} (hL : (C.θ g).stop ≤ L) (rem : Nat) (hl : L + rem * (C.θ g).sz ≤ vs.size) : Ok (C.tipGrow vs g e L rem) s where
  n := h.n
  obj i a ha := by
    have hin : i < C.n := by rw [h.n]; exact (List.getElem?_eq_some_iff.1 ha).1
    exact RelO.mono (h.le_tipGrow hg hold hsame hL rem) (setRow_other _ _ _ _ (h.tipown g i (List.getElem?_eq_some_iff.1 hg).1 hin)) (h.obj i a ha)
  inj := h.inj
  own i hi := by
    obtain ⟨a, b, c⟩ := h.own i hi
    refine ⟨a, b.imp id fun b => ?_, by simpa [Ctx.tipGrow] using c⟩
    have : C.ρ i ≠ (C.θ g).b := h.tipown g i (List.getElem?_eq_some_iff.1 hg).1 hi
    simpa [Ctx.tipGrow, this] using b
  tip g' hg' := by
    have hg2 : g' < C.τ.length := by simpa [Ctx.tipGrow] using hg'
    obtain ⟨a, b, vs', T', c, d⟩ := h.tip g' hg2
    by_cases e1 : g' = g
    · subst e1
      simp only [Ctx.tipGrow, if_true]
      exact ⟨a, Nat.le_refl _, vs, T, setRow_heap _ _ _ _ _ _ hold, hl⟩
    · have hne : (C.θ g').b ≠ (C.θ g).b := fun e2 => e1 (h.tipinj g' g hg2 (List.getElem?_eq_some_iff.1 hg).1 e2)
      simp only [Ctx.tipGrow, e1, if_false]
      exact ⟨a, by simpa [hne] using b, vs', T', (setRow_other _ _ _ _ hne).trans c, d⟩
  tipinj g1 g2 h1 h2 e' := by
    have h1' : g1 < C.τ.length := by simpa [Ctx.tipGrow] using h1
    have h2' : g2 < C.τ.length := by simpa [Ctx.tipGrow] using h2
    apply h.tipinj g1 g2 h1' h2'
    by_cases e1 : g1 = g <;> by_cases e2 : g2 = g <;> simp only [Ctx.tipGrow, e1, e2, if_true, if_false] at e' <;> simp_all
  tipown g' i hg' hi := by
    have hg2 : g' < C.τ.length := by simpa [Ctx.tipGrow] using hg'
    have := h.tipown g' i hg2 hi
    by_cases e1 : g' = g
    · subst e1; simpa [Ctx.tipGrow] using this
    · simpa [Ctx.tipGrow, e1] using this
  kept b hb := by have := h.kept b hb; simpa [Ctx.tipGrow] using this
  lim b hb := by
    have hlt := h.tip_lt (List.getElem?_eq_some_iff.1 hg).1
    simp only [Ctx.tipGrow, setRow_size] at hb ⊢
    rw [if_neg (by omega)]
    exact h.lim b (by omega)
end Go.Hb
