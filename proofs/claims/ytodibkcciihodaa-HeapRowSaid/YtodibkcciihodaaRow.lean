/-
  heapRow: the statement holds. CONDITIONS: those of the given statement (any input), none other.
-/
import Derived.Test.YtodibkcciihodaaRows
import Derived.Test.YtodibkcciihodaaD7
import Derived.Test.YtodibkcciihodaaE3
set_option linter.unusedVariables false
set_option linter.unusedSimpArgs false
namespace Go.Proofs.Ytodibkcciihodaa.heapRow
open Go.ChangeShapes Go.WideShapes Go.ChangeAt Go.RowKit

theorem own : ownKnob Try.prog.godebug = none := by kernel_rfl

set_option maxRecDepth 100000 in
theorem lifted (os : Os) (started : os.Started) (H : Type) (enc : TypeId × Value → H) :
    ReturnsInHanded {} Try.checked os 7 .any (Rows.heapRowSpec.pre6 enc Try.prog Try.f7 Rows.heapRowRow.domain false) (Rows.heapRowSpec.post enc Try.prog Try.f7 false true false false) := by
  refine returnsInHanded_of_change (C := Try.checked) own started (by kernel_rfl) Try.func7
    (ChangeSpec.witness6 (enc := enc) (C := Try.checked) false ⟨#[], #[.slice none 0 0, .slice none 0 0], []⟩ 8 (by kernel_rfl) (by kernel_rfl) (by kernel_rfl) (by kernel_rfl)) ?_
  intro W base args ds gs before hval hW _ _
  refine Hb.law_step (tb := 4) Try.underlying4 (by kernel_rfl) (by kernel_rfl) (of_decide_eq_true (by kernel_rfl)) rfl (fun ds h => ?_) hW fun p hA => ?_
  · match ds, h with
    | [_, _], _ => rfl
  · rw [Try.params7] at hA hval
    obtain ⟨v0, vs0, d0, ds0, p0, q0, hargs, rfl, rfl, h0, r0⟩ := trodAll_cons hA
    obtain ⟨v1, vs1, d1, ds1, p1, q1, rfl, rfl, rfl, h1, r1⟩ := trodAll_cons r0
    obtain ⟨rfl, rfl, rfl⟩ := trodAll_nil r1
    obtain rfl : args = #[v0, v1] := by cases args; simp_all
    obtain ⟨l, g0, e0⟩ := Hb.arg_one Hb.opens_row (Hb.okWide_sl Try.underlying22 (hval 0 22 v0 rfl rfl)) h0
    obtain ⟨a, g1, e1⟩ := Hb.arg_one Hb.opens_row (Hb.okWide_sl Try.underlying22 (hval 1 22 v1 rfl rfl)) h1
    exact Hb.top_true (Hb.rowLaw_c g0 g1) ⟨_, _, rfl, e0, _, _, rfl, e1, rfl⟩

theorem over : Rows.heapRowRow.holds Try.pinned (OpenSpec.ofChange Rows.heapRowSpec) :=
  OpenClaim.holds_of_wide 7 Try.f7 rfl rfl rfl rfl rfl rfl rfl ⟨rfl, rfl, rfl, rfl, rfl⟩ rfl rfl rfl rfl rfl (by kernel_rfl) Try.func7 (by kernel_rfl)
    (of_decide_eq_true (by kernel_rfl)) (by unfold Func.isWrapper; first | (rw [if_pos (by decide +kernel)]; kernel_rfl) | (rw [if_neg (by decide +kernel)]; exact ⟨rfl, rfl⟩))
    (fun os started H enc _ => lifted os started H enc)

/-- ████ THE STATEMENT ████ -/
theorem proved : Rows.HeapRowSaid :=
  over
#print axioms proved
end Go.Proofs.Ytodibkcciihodaa.heapRow
