import Derived.Test.YtbglkjbmnlkgmaaHbTop
import Derived.Test.YtbglkjbmnlkgmaaHbX
import Derived.Deep.Grids
import Derived.Carry
namespace Go.Hb
open Go Go.RowKit Go.ChangeShapes

theorem start_lim {W : World} {b o : Nat} {v : Value} (h : W.cell? ⟨b, o, none⟩ = some v) : o < (start W).lim b := by
  simp only [start]
  unfold World.cell? at h
  split at h
  · rename_i c t f hb
    simp at hb
    rw [hb]
    simp at h
    exact (Array.getElem?_eq_some_iff.1 h).1
  · cases h

theorem relCs_of {W : World} {b : Nat} : ∀ (cs : List LV) (o : Nat), (∀ i x, cs[i]? = some x → ∃ v, W.cell? ⟨b, o + i, none⟩ = some v ∧ v.oneCell' = true ∧ RelV (start W) x v) → RelCs (start W) b cs o
  | [], _, _ => by simp [RelCs]
  | x :: xs, o, h => by
    simp only [RelCs]
    obtain ⟨v, h1, h2, h3⟩ := h 0 x rfl
    have h1 : W.cell? ⟨b, o, none⟩ = some v := by simpa using h1
    refine ⟨⟨v, h1, start_lim h1, h2, h3⟩, relCs_of xs (o + 1) fun i y hy => ?_⟩
    obtain ⟨v, h1, h2, h3⟩ := h (i + 1) y (by simpa using hy)
    exact ⟨v, by rw [show o + 1 + i = o + (i + 1) by omega]; exact h1, h2, h3⟩

/-- A row of cells, as it lies there. -/
theorem rel_row {W : World} {a : Addr} {cap : Nat} (cs : List LV) (hne : cs ≠ []) (hl : cs.length ≤ cap) (hm : cap ≤ maxLen) (h : ∀ i x, cs[i]? = some x → ∃ v, W.cell? (a.add i) = some v ∧ v.oneCell' = true ∧ RelV (start W) x v) :
    RelV (start W) (.imm 1 cs.length cs .no) (.slice (some a) cs.length cap) := by
  have hs : a.spot = none := by
    cases cs with
    | nil => exact absurd rfl hne
    | cons x xs =>
      obtain ⟨v, h1, _⟩ := h 0 x rfl
      unfold World.cell? at h1
      split at h1
      · simp only [Addr.add, if_true] at h1
        split at h1
        · cases h1
        · rename_i hh; simpa using hh
      · cases h1
  obtain ⟨b, o, sp⟩ := a
  simp only at hs; subst hs
  simp only [RelV]
  refine ⟨some ⟨b, o, none⟩, cap, rfl, hl, hm, by simp, (by intro h; cases h), (by intro a ha; cases ha; rfl), fun b' o' he => ?_, trivial⟩
  cases he
  refine relCs_of cs o fun i x hx => ?_
  obtain ⟨v, h1, h2⟩ := h i x hx
  refine ⟨v, ?_, h2⟩
  unfold Addr.add at h1
  split at h1
  · rename_i e; subst e; exact h1
  · exact h1

def encB (l : List Bool) : LV := .imm 1 l.length (l.map .bool) .no

theorem rel_bools {H : Type} {enc : TypeId × Value → H} {P : Program} {W : World} {held : Bool} {t e : TypeId} {v : Value} {d : DataW H} {ps : List MemPlace} (ht : P.underlying t = some (.slice e)) (he : P.underlying e = some .bool) (hc : P.cellsOf e = 1)
    (h : DataW.Trod enc P W 0 (fun _ => true) held t v d ps) (hv : v.cells.toList = [v]) : ∃ (l : List Bool) (x : LV), (x = encB l ∨ (l = [] ∧ (x = .nils ∨ x = .emp 1))) ∧ RelV (start W) x v := by
  obtain ⟨fuel, h⟩ := h
  rw [hv] at h
  rcases Go.Deep.open_bools ht he hc h with ⟨h1, _⟩ | ⟨a, len, cap, B, h1, _, h3, h4, _, h6⟩
  · simp at h1; subst h1
    exact ⟨[], .nils, .inr ⟨rfl, .inl rfl⟩, by simp [RelV]⟩
  · simp at h1; subst h1
    by_cases hl : len = 0
    · subst hl
      exact ⟨[], .emp 1, .inr ⟨rfl, .inr rfl⟩, by simp only [RelV]; exact ⟨a, cap, rfl, h4⟩⟩
    · refine ⟨(List.range len).map B, _, .inl rfl, ?_⟩
      have := rel_row (W := W) (a := a) (cap := cap) (((List.range len).map B).map LV.bool) (by simpa using hl) (by simpa using h3) h4 (fun i x hx => by
        have hi := (List.getElem?_eq_some_iff.1 hx).1
        simp at hi
        have hx2 : LV.bool (B i) = x := by simpa [hi] using hx
        subst hx2
        exact ⟨_, h6 i (by omega), by simp [Value.oneCell'], by simp [RelV]⟩)
      simpa [encB] using this
end Go.Hb
