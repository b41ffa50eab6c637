import Derived.Test.YtbglkjbmnlkgmaaHbB
namespace Go.Hb
open Go Go.RowKit

theorem heap_old (w : World) (o : Obj) (k : Nat) (h : k < w.heap.size) : (w.alloc o).heap[k]? = w.heap[k]? := Below.heap_alloc w o k h
theorem heap_new (w : World) (o : Obj) : (w.alloc o).heap[w.heap.size]? = some o := heap_alloc_new w o

theorem RelO.mono {C C' : Ctx} (h : C.le C') {o : AObj} {b : Nat} (hb : C'.w.heap[b]? = C.w.heap[b]?) (r : RelO C o b) : RelO C' o b := by
  cases o with
  | cells cs =>
    obtain ⟨vs, T, us, ws, h1, h2, h3, h4⟩ := r
    exact ⟨vs, T, us, ws, hb.trans h1, h2, RelVs.mono h _ _ h3, h4⟩
  | loop r' =>
    obtain ⟨L, h1, h2, h3, h4, h5, h6, h7, h8⟩ := r
    exact ⟨L, hb.trans h1, h2, h3, h4, h5, h6, h7, RelT.mono h h8⟩

/-! ### A draw -/
def Ctx.drew (C : Ctx) : Ctx := { C with w := C.w.drew }
theorem Ctx.le_drew (C : Ctx) : C.le C.drew :=
  ⟨rfl, rfl, rfl, Nat.le_refl _, fun _ h => h, fun _ _ => rfl, fun _ => Nat.le_refl _, fun _ _ _ => rfl, fun _ _ => rfl, Nat.le_refl _, fun _ e h => ⟨e, h, Nat.le_refl _, fun _ => rfl⟩⟩
theorem Ok.drew {C : Ctx} {s : List AObj} (h : Ok C s) : Ok C.drew s :=
  ⟨h.n, fun i o ho => RelO.mono (Ctx.le_drew C) rfl (h.obj i o ho), h.inj, h.own, h.tip, h.tipinj, h.tipown, h.kept, h.lim⟩

/-! ### A new object -/
def Ctx.push (C : Ctx) (o : Obj) : Ctx := { C with w := C.w.alloc o, n := C.n + 1, ρ := fun i => if i = C.n then C.w.heap.size else C.ρ i }

theorem Ok.cell_lt {C : Ctx} {s : List AObj} (h : Ok C s) {b o : Nat} (ho : o < C.lim b) : b < C.w.heap.size := by
  rcases Nat.lt_or_ge b C.w.heap.size with h' | h'
  · exact h'
  · have := h.lim b h'; omega

theorem Ok.le_push {C : Ctx} {s : List AObj} (h : Ok C s) (o : Obj) : C.le (C.push o) where
  os := rfl
  tape := rfl
  output := rfl
  size := by simp [Ctx.push]
  kept b hb := hb
  keep b hb := heap_old _ _ _ (h.kept b hb)
  lim b := Nat.le_refl _
  cell b o' ho := World.cell?_alloc_lt _ _ _ (h.cell_lt ho)
  ρ i hi := by simp [Ctx.push]; intro e; omega
  n := by simp [Ctx.push]
  τ g e he := ⟨e, he, Nat.le_refl _, fun _ => rfl⟩

theorem Ok.tip_lt {C : Ctx} {s : List AObj} (h : Ok C s) {g : Nat} (hg : g < C.τ.length) : (C.θ g).b < C.w.heap.size := by
  obtain ⟨_, _, vs, T, h1, _⟩ := h.tip g hg
  exact (Array.getElem?_eq_some_iff.1 h1).1

theorem Ok.push {C : Ctx} {s : List AObj} (h : Ok C s) (o : Obj) (ao : AObj) (hao : RelO (C.push o) ao C.w.heap.size) : Ok (C.push o) (s ++ [ao]) where
  n := by simp [Ctx.push, h.n]
  obj i a ha := by
    have hl := h.le_push o
    by_cases hi : i < s.length
    · rw [List.getElem?_append_left hi] at ha
      have hr := h.obj i a ha
      have hin : i < C.n := by rw [h.n]; exact hi
      rw [hl.ρ i hin]
      exact RelO.mono hl (heap_old _ _ _ (h.own i hin).2.2) hr
    · rw [List.getElem?_append_right (by omega)] at ha
      have e : i = s.length := by
        rcases Nat.lt_or_ge (i - s.length) 1 with h1 | h1
        · omega
        · simp [List.getElem?_eq_none (l := [ao]) (i := i - s.length) (by simpa using h1)] at ha
      subst e
      simp at ha
      subst ha
      have : (C.push o).ρ s.length = C.w.heap.size := by simp [Ctx.push, h.n]
      rw [this]; exact hao
  inj i j hi hj e := by
    simp only [Ctx.push] at hi hj e
    by_cases h1 : i = C.n <;> by_cases h2 : j = C.n <;> simp only [h1, h2, if_true, if_false] at e
    · omega
    · have := (h.own j (by omega)).2.2; omega
    · have := (h.own i (by omega)).2.2; omega
    · exact h.inj i j (by omega) (by omega) e
  own i hi := by
    simp only [Ctx.push] at hi ⊢
    by_cases h1 : i = C.n
    · simp only [h1, if_true]
      refine ⟨fun hk => ?_, .inr (h.lim _ (Nat.le_refl _)), by simp⟩
      have := h.kept _ hk; omega
    · simp only [h1, if_false]
      obtain ⟨a, b, c⟩ := h.own i (by omega)
      exact ⟨a, b.imp (fun hb => by rw [List.getElem?_append_left (List.getElem?_eq_some_iff.1 hb).1]; exact hb) id, by simp; omega⟩
  tip g hg := by
    obtain ⟨a, b, vs, T, c, d⟩ := h.tip g hg
    exact ⟨a, b, vs, T, (heap_old _ _ _ (h.tip_lt hg)).trans c, d⟩
  tipinj := h.tipinj
  tipown g i hg hi := by
    simp only [Ctx.push] at hi ⊢
    by_cases h1 : i = C.n
    · simp only [h1, if_true]
      have := h.tip_lt hg
      omega
    · simp only [h1, if_false]; exact h.tipown g i hg (by omega)
  kept b hb := by have := h.kept b hb; simp [Ctx.push]; omega
  lim b hb := h.lim b (by simp [Ctx.push] at hb; omega)

/-! ### A new row that never changes -/
def Ctx.row (C : Ctx) (cs : Array Value) (T : TypeId) : Ctx := { C with w := C.w.alloc (.cells cs T), lim := fun b => if b = C.w.heap.size then cs.size else C.lim b }

theorem Ok.le_row {C : Ctx} {s : List AObj} (h : Ok C s) (cs : Array Value) (T : TypeId) : C.le (C.row cs T) where
  os := rfl
  tape := rfl
  output := rfl
  size := by simp [Ctx.row]
  kept b hb := hb
  keep b hb := heap_old _ _ _ (h.kept b hb)
  lim b := by
    simp only [Ctx.row]
    by_cases e : b = C.w.heap.size
    · have := h.lim b (by omega); simp [e] at this ⊢; omega
    · simp [e]
  cell b o' ho := World.cell?_alloc_lt _ _ _ (h.cell_lt ho)
  ρ i hi := rfl
  n := Nat.le_refl _
  τ g e he := ⟨e, he, Nat.le_refl _, fun _ => rfl⟩

theorem Ok.row {C : Ctx} {s : List AObj} (h : Ok C s) (cs : Array Value) (T : TypeId) : Ok (C.row cs T) s where
  n := h.n
  obj i a ha := by
    have hin : i < C.n := by rw [h.n]; exact (List.getElem?_eq_some_iff.1 ha).1
    exact RelO.mono (h.le_row cs T) (heap_old _ _ _ (h.own i hin).2.2) (h.obj i a ha)
  inj := h.inj
  own i hi := by
    obtain ⟨a, b, c⟩ := h.own i hi
    refine ⟨a, b.imp id fun b => ?_, by simp [Ctx.row]; omega⟩
    have : C.ρ i ≠ C.w.heap.size := by omega
    simpa [Ctx.row, this] using b
  tip g hg := by
    obtain ⟨a, b, vs, T', c, d⟩ := h.tip g hg
    have hb := h.tip_lt hg
    have : (C.θ g).b ≠ C.w.heap.size := by omega
    exact ⟨a, by simpa [Ctx.row, this] using b, vs, T', (heap_old _ _ _ hb).trans c, d⟩
  tipinj := h.tipinj
  tipown := h.tipown
  kept b hb := by have := h.kept b hb; simp [Ctx.row]; omega
  lim b hb := by
    simp only [Ctx.row, World.size_alloc] at hb ⊢
    rw [if_neg (by omega)]
    exact h.lim b (by omega)

theorem RelCs.of_row {C : Ctx} {b : Nat} {vs : Array Value} {T : TypeId} {fr : Nat × Nat} (hb : C.w.heap[b]? = some (.cells vs T fr)) :
    ∀ (xs : List LV) (us : List Value) (o : Nat), RelVs C xs us → (∀ u ∈ us, u.oneCell' = true) → (∀ i u, us[i]? = some u → vs[o + i]? = some u) → o + xs.length ≤ C.lim b → RelCs C b xs o := by
  intro xs
  induction xs with
  | nil => intro us o _ _ _ _; simp [RelCs]
  | cons x xs ih =>
    intro us o h h1 h2 h3
    obtain ⟨v, r, rfl, h4, h5⟩ := h
    simp at h3
    refine ⟨⟨v, ?_, by omega, h1 v (by simp), h4⟩, ih r (o + 1) h5 (fun u hu => h1 u (by simp [hu])) (fun i u hu => ?_) (by omega)⟩
    · have := h2 0 v (by simp)
      simpa [World.cell?, hb] using this
    · have := h2 (i + 1) u (by simpa using hu)
      rw [show o + 1 + i = o + (i + 1) from by omega]; exact this

/-! ### A store into an own block -/
def Ctx.set (C : Ctx) (b : Nat) (vs : Array Value) : Ctx := { C with w := C.w.setRow b vs }

theorem Ctx.le_set (C : Ctx) {b : Nat} (hk : ¬ C.kept b) (hl : C.lim b = 0) (vs : Array Value) : C.le (C.set b vs) where
  os := rfl
  tape := rfl
  output := rfl
  size := by simp [Ctx.set]
  kept _ h := h
  keep b' hb := setRow_other _ _ _ _ (by intro e; subst e; exact hk hb)
  lim _ := Nat.le_refl _
  cell b' o ho := cell_setRow_other _ _ _ _ (by intro e; simp at e; subst e; omega)
  ρ _ _ := rfl
  n := Nat.le_refl _
  τ g e he := ⟨e, he, Nat.le_refl _, fun _ => rfl⟩

theorem Ok.set {C : Ctx} {s : List AObj} (h : Ok C s) {id : Nat} (hid : id < s.length) (hlv : C.lim (C.ρ id) = 0) (vs : Array Value) (ao : AObj) (hao : RelO (C.set (C.ρ id) vs) ao (C.ρ id)) : Ok (C.set (C.ρ id) vs) (s.set id ao) where
  n := by simpa [Ctx.set] using h.n
  obj i a ha := by
    have hin : id < C.n := by rw [h.n]; exact hid
    have hl := C.le_set (h.own id hin).1 hlv vs
    by_cases e : i = id
    · subst e
      simp [hid] at ha
      subst ha; exact hao
    · rw [List.getElem?_set_ne (by omega)] at ha
      have hi : i < C.n := by rw [h.n]; exact (List.getElem?_eq_some_iff.1 ha).1
      exact RelO.mono hl (setRow_other _ _ _ _ (fun e' => e (h.inj i id hi hin e'))) (h.obj i a ha)
  inj := h.inj
  own i hi := by
    obtain ⟨a, b, c⟩ := h.own i hi
    refine ⟨a, ?_, by simpa [Ctx.set] using c⟩
    by_cases e : i = id
    · subst e; exact .inr hlv
    · exact b.imp (fun hb => by rw [List.getElem?_set_ne (by omega)]; exact hb) (fun hb => hb)
  tip g hg := by
    obtain ⟨a, b, vs', T', c, d⟩ := h.tip g hg
    exact ⟨a, b, vs', T', (setRow_other _ _ _ _ (fun e => h.tipown g id hg (by rw [h.n]; exact hid) e.symm)).trans c, d⟩
  tipinj := h.tipinj
  tipown := h.tipown
  kept b hb := by have := h.kept b hb; simpa [Ctx.set] using this
  lim b hb := h.lim b (by simpa [Ctx.set] using hb)

end Go.Hb
