import Derived.Test.YtbglkjbmnlkgmaaHbE
namespace Go.Hb
open Go Go.RowKit

/-! ### slice expressions -/
/-- An optional bound: none: not an int; some none: absent. -/
def oInt : Option LV → Option (Option Int)
  | none => some none
  | some (.int _ i) => some (some i)
  | some _ => none

/-- (l, h, capped): the bounds within len (and the third one, if there). -/
def aBounds (len : Nat) (lo hi mx : Option LV) : Option (Nat × Nat × Option Nat) :=
  match oInt lo, oInt hi, oInt mx with
  | some lo, some hi, some mx =>
    let l := lo.getD 0
    let m := mx.getD len
    let h := hi.getD len
    if 0 ≤ l ∧ l ≤ h ∧ h ≤ m ∧ m ≤ (len : Int) ∧ (mx.isSome = true → hi.isSome = true) then some (l.toNat, h.toNat, mx.map Int.toNat) else none
  | _, _, _ => none

theorem oInt_rel {C : Ctx} {x : Option LV} {v : Option Value} {i : Option Int} (hr : match x, v with | none, none => True | some x, some v => RelV C x v | _, _ => False) (h : oInt x = some i) :
    (i = none ∧ v = none) ∨ ∃ k n, i = some n ∧ v = some (.int k n) := by
  unfold oInt at h
  split at h
  · simp at h; subst h; cases v <;> simp_all
  · rename_i k n
    simp at h; subst h
    cases v with
    | none => simp at hr
    | some v => simp [RelV] at hr; subst hr; exact .inr ⟨k, n, rfl, rfl⟩
  · cases h

abbrev RelOV (C : Ctx) (x : Option LV) (v : Option Value) : Prop := match x, v with | none, none => True | some x, some v => RelV C x v | _, _ => False

theorem run_sliceBound {P : Program} {k : IntKind} {i : Int} {y : Nat} {c : BoundsCode} {w : World} (h0 : 0 ≤ i) (h1 : i ≤ (y : Int)) : (Instr.sliceBound (.int k i) y c).run P w = .ok i.toNat w := by
  unfold Instr.sliceBound
  simp only [asIntOf, pure_bind]
  rw [if_pos ⟨h0, h1⟩]; rfl

theorem aBounds_sound {P : Program} {C : Ctx} {len cap : Nat} {isSlice : Bool} {lo hi mx : Option LV} {vlo vhi vmx : Option Value} {l h : Nat} {m : Option Nat} (hlc : len ≤ cap)
    (h1 : RelOV C lo vlo) (h2 : RelOV C hi vhi) (h3 : RelOV C mx vmx) (hb : aBounds len lo hi mx = some (l, h, m)) :
    l ≤ h ∧ h ≤ m.getD len ∧ m.getD len ≤ len ∧ (mx = none ↔ m = none) ∧ (hi = none → h = len) ∧ (Instr.sliceBounds isSlice len cap vlo vhi vmx).run P C.w = .ok (l, h, m.getD cap) C.w := by
  unfold aBounds at hb
  split at hb
  · rename_i lo' hi' mx' e1 e2 e3
    have r1 := oInt_rel h1 e1
    have r2 := oInt_rel h2 e2
    have r3 := oInt_rel h3 e3
    have hmx : mx = none ↔ mx' = none := by
      cases mx with
      | none => simp only [oInt, Option.some.injEq] at e3; rw [← e3]; simp
      | some x => rcases r3 with ⟨rfl, rfl⟩ | ⟨k, n, rfl, rfl⟩
                  · exact h3.elim
                  · simp
    have hhi : hi = none → hi' = none := by
      intro e; subst e; simp only [oInt, Option.some.injEq] at e2; exact e2.symm
    simp only at hb
    split at hb
    · rename_i hc
      obtain ⟨c1, c2, c3, c4, c5⟩ := hc
      simp only [Option.some.injEq, Prod.mk.injEq] at hb
      obtain ⟨rfl, rfl, rfl⟩ := hb
      refine ⟨by omega, ?_, ?_, ?_, ?_, ?_⟩
      · cases mx' <;> simp at c3 ⊢ <;> omega
      · cases mx' <;> simp at c4 ⊢; omega
      · rw [hmx]; cases mx' <;> simp
      · intro e; rw [hhi e]; simp
      · unfold Instr.sliceBounds
        rcases r3 with ⟨rfl, rfl⟩ | ⟨k3, n3, rfl, rfl⟩ <;> rcases r2 with ⟨rfl, rfl⟩ | ⟨k2, n2, rfl, rfl⟩ <;> rcases r1 with ⟨rfl, rfl⟩ | ⟨k1, n1, rfl, rfl⟩ <;>
          simp only [Option.getD_none, Option.getD_some] at c1 c2 c3 c4 <;> simp only [Option.isSome_none, Option.isSome_some] at c5
        · simp
        · simp only [pure_bind, Sem.run_bind]; rw [run_sliceBound c1 c2]; simp
        · simp only [pure_bind, Sem.run_bind]; rw [run_sliceBound c2 (by omega)]; simp
        · simp only [pure_bind, Sem.run_bind]; rw [run_sliceBound (by omega) (by omega)]; simp only [Result.andThen_ok]; rw [run_sliceBound c1 (by omega)]; simp
        · simp at c5
        · simp at c5
        · simp only [pure_bind, Sem.run_bind]; rw [run_sliceBound (by omega) (by omega)]; simp only [Result.andThen_ok]; rw [run_sliceBound (by omega) (by omega)]; simp
        · simp only [Sem.run_bind]; rw [run_sliceBound (by omega) (by omega)]; simp only [Result.andThen_ok]; rw [run_sliceBound (by omega) (by omega)]; simp only [Result.andThen_ok]; rw [run_sliceBound c1 (by omega)]; simp
    · cases hb
  · cases hb
end Go.Hb
