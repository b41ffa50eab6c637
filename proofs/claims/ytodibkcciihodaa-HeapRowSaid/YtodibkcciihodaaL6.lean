/-
  A layer for reasoning about the program's calls, and contracts of its functions (L6). CONDITIONS: none; each theorem bears its own.
-/
import Derived.Test.YtodibkcciihodaaL5
import Derived.Sort.Row
import Derived.Sort.Grow
import Derived.Deep.Draws
set_option linter.unusedVariables false
set_option linter.unusedSimpArgs false
section
namespace Go.Hb
open Go Go.RowKit

/-- Draws. -/
def Ctx.ahead (C : Ctx) (n : Nat) : Ctx := { C with w := Sort.ahead C.w n }
theorem Ctx.le_ahead (C : Ctx) (n : Nat) : C.le (C.ahead n) :=
  ⟨rfl, rfl, rfl, Nat.le_refl _, fun _ h => h, fun _ _ => rfl, fun _ => Nat.le_refl _, fun _ _ _ => rfl, fun _ _ => rfl, Nat.le_refl _, fun _ e h => ⟨e, h, Nat.le_refl _, fun _ => rfl⟩, fun _ => Nat.le_refl _, by first | exact Nat.le_refl _ | exact Nat.le_succ _ | exact Nat.le_add_right _ _⟩
theorem Ok.ahead {C : Ctx} {s : List AObj} (h : Ok C s) (n : Nat) : Ok (C.ahead n) s :=
  ⟨h.n, fun i o ho => RelO.mono (Ctx.le_ahead C n) rfl (h.obj i o ho), h.inj, h.own, h.tip, h.tipinj, h.tipown, h.kept, h.lim⟩

/-- Blocks that no one knows of. -/
theorem Ok.grow {s : List AObj} : ∀ (os : List Obj) {C : Ctx}, Ok C s → ∃ C' : Ctx, C'.w = Sort.grow C.w os.toArray ∧ C.le C' ∧ Ok C' s ∧ C'.τ = C.τ ∧ ∀ i, C'.ρ i = C.ρ i
  | [], C, h => ⟨C, by simp, Ctx.le.refl C, h, rfl, fun _ => rfl⟩
  | o :: os, C, h => by
    obtain ⟨C', h1, h2, h3, h4, h5⟩ := Ok.grow os (h.hold o)
    refine ⟨C', ?_, (h.le_hold o).trans h2, h3, h4, h5⟩
    rw [h1]
    show Sort.grow (C.w.alloc o) os.toArray = _
    rw [Sort.alloc_eq_grow, Sort.grow_grow]
    congr 1
    simp

/-- A row that was put at the head of an own block. -/
theorem putRow_setRow (w : World) (b : Nat) (F : Array Value) {old : Array Value} {T : TypeId} (hold : w.heap[b]? = some (.cells old T (0, 0))) : Sort.putRow id w b 0 F = w.setRow b (Sort.putCells id 0 F old) := by
  unfold Sort.putRow Sort.mapBlock World.setRow
  have hlt := (Array.getElem?_eq_some_iff.1 hold).1
  congr 1
  apply Array.ext_getElem?
  intro i
  rw [Array.getElem?_modify, Array.getElem?_modify]
  by_cases e : b = i
  · subst e
    rw [if_pos rfl, if_pos rfl, hold]
    rfl
  · rw [if_neg e, if_neg e]

theorem putCells_toList (F old : Array Value) (h : F.size ≤ old.size) : (Sort.putCells id 0 F old).toList = F.toList ++ old.toList.drop F.size := by
  apply List.ext_getElem?
  intro i
  unfold Sort.putCells
  rw [Array.getElem?_toList, Array.getElem?_mapIdx]
  by_cases hi : i < F.size
  · rw [List.getElem?_append_left (by simpa using hi), Array.getElem?_toList, Array.getElem?_eq_getElem hi, Array.getElem?_eq_getElem (by omega)]
    simp [hi]
  · rw [List.getElem?_append_right (by simp; omega), List.getElem?_drop]
    simp only [Array.length_toList, Array.getElem?_toList]
    rw [show F.size + (i - F.size) = i by omega]
    cases old[i]? with
    | none => rfl
    | some x => simp [hi]

theorem sort_bridge {C : Ctx} {s : List AObj} (h : Ok C s) {id : Nat} {xs0 xs : List LV} (hs : s[id]? = some (.cells xs0)) (hne : xs0 ≠ []) (F : Array Value) (hF : RelVs C xs F.toList) (h1 : ∀ u ∈ F.toList, u.oneCell' = true) (hlen : xs.length ≤ xs0.length) (n : Nat) (os : Array Obj) :
    ∃ C' : Ctx, C'.w = Sort.grow (Sort.putRow _root_.id (Sort.ahead C.w n) (C.ρ id) 0 F) os ∧ C.le C' ∧ Ok C' (s.set id (.cells xs)) ∧ C'.τ = C.τ := by
  have hid := (List.getElem?_eq_some_iff.1 hs).1
  obtain ⟨vs, T, us, ws, k1, k2, k3, k4⟩ := h.obj id _ hs
  have hn := h.ahead n
  have hle := Ctx.le_ahead C n
  have hsz : F.size ≤ vs.size := by
    have e1 := hF.length
    have e2 := k3.length
    have e3 := congrArg List.length k2
    simp at e1 e3; omega
  have hpl := putCells_toList F vs hsz
  have hps : (Sort.putCells _root_.id 0 F vs).size = vs.size := by simp [Sort.putCells]
  have hnd : ¬ s[id]? = some (.cells []) := by rw [hs]; simpa using hne
  have hlv : C.lim (C.ρ id) = 0 := (h.own id (by rw [h.n]; exact hid)).2.1.resolve_left hnd
  have hle2 := Ctx.le_set (C.ahead n) (b := C.ρ id) (h.own id (by rw [h.n]; exact hid)).1 hlv (Sort.putCells _root_.id 0 F vs) (old := vs) (T := T) k1 (by omega)
  have hset := hn.set hid hnd hlv (Sort.putCells _root_.id 0 F vs) (old := vs) (T := T) k1 (by omega) xs
    ⟨_, T, F.toList, vs.toList.drop F.size, setRow_heap _ _ _ _ _ _ k1, hpl, RelVs.mono (hle.trans hle2) _ _ hF, h1⟩
  obtain ⟨C', c1, c2, c3, c4, _⟩ := Ok.grow os.toList hset
  refine ⟨C', ?_, (hle.trans hle2).trans c2, c3, c4⟩
  rw [c1]
  have e := putRow_setRow (Sort.ahead C.w n) (C.ρ id) F (old := vs) (T := T) k1
  rw [e]
  simp [Ctx.set, Ctx.ahead]
end Go.Hb
end

section
namespace Go.Hb
open Go Go.RowKit

/-- A call that knows of nothing that is there: all that was there is as it was; there may be draws, and blocks more. -/
theorem calls_grow {P : Program} {f : FuncId} {args : List LV} {vs : Array Value} {W : World} {R : LV → Prop} (h : aCalls P f args [] [] fun x _ _ => R x) (hv : RelVs (start W) args vs.toList) :
    Calls P f vs W fun e w' => (∃ C x u, e = .returned u ∧ RelV C x u ∧ R x) ∧ ∃ q os', w' = Sort.grow (W.drewN q) os' :=
  (h.2 (start W) vs (start_ok W) rfl hv).mono fun e w' ⟨C', x, u, s', v', k1, k2, k3, k4, k5, k6, k7⟩ => by
    subst k1
    refine ⟨⟨C', x, u, k2, k6, k7⟩, C'.w.drawn - W.drawn, C'.w.heap.extract W.heap.size C'.w.heap.size, ?_⟩
    have e1 := k3.os
    have e2 := k3.tape
    have e3 := k3.output
    have e4 := k3.size
    have e5 := k3.drawn
    have e6 : ∀ b, b < W.heap.size → C'.w.heap[b]? = W.heap[b]? := fun b hb => k3.keep b hb
    simp only [start] at e1 e2 e3 e4 e5
    generalize C'.w = w' at *
    obtain ⟨hp, tp, dr, o, out⟩ := w'
    simp only at e1 e2 e3 e4 e5 e6
    subst e1; subst e2; subst e3
    unfold Sort.grow World.drewN
    congr 1
    · apply Array.ext_getElem?
      intro i
      simp only
      by_cases hi : i < W.heap.size
      · rw [e6 i hi, Array.getElem?_append_left hi]
      · rw [Array.getElem?_append_right (by omega), Array.getElem?_extract]
        by_cases hj : i < hp.size
        · rw [if_pos (by omega)]; congr 1; omega
        · rw [if_neg (by omega), Array.getElem?_eq_none (by omega)]
    · simp only; omega
end Go.Hb
end

