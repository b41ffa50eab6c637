/-
  ChansChoice: a choice receives from the first of its channels that is ready. CONDITIONS: those of the given statement (any four numbers, any two lists of numbers, any number), none other.
-/
import Derived.Test.YtgaaocndjaoihaaRows
import Derived.Test.YtgaaocndjaoihaaC6
import Derived.Test.YtgaaocndjaoihaaC8
set_option linter.unusedVariables false
set_option linter.unusedSimpArgs false
namespace Go.Proofs.Ytgaaocndjaoihaa.chansChoice
open Go.ChangeShapes Go.WideShapes Go.ChangeAt Go.RowKit

theorem own : ownKnob Try.prog.godebug = none := by kernel_rfl

set_option maxRecDepth 100000 in
theorem lifted (os : Os) (started : os.Started) (H : Type) (enc : TypeId × Value → H) :
    ReturnsInHanded {} Try.checked os 5 .any (Rows.chansChoiceSpec.pre6 enc Try.prog Try.f5 Rows.chansChoiceRow.domain false) (Rows.chansChoiceSpec.post enc Try.prog Try.f5 false true false false) := by
  refine returnsInHanded_of_change (C := Try.checked) own started (by kernel_rfl) Try.func5
    (ChangeSpec.witness6 (enc := enc) (C := Try.checked) false ⟨#[], #[.agg #[.int .i64 0, .int .i64 0, .int .i64 0, .int .i64 0], .slice none 0 0, .slice none 0 0, .int .i64 0], []⟩ 8 (by kernel_rfl) (by kernel_rfl) (by kernel_rfl) (by kernel_rfl)) ?_
  intro W base args ds gs before hval hW _ _
  refine Hb.law_step (tb := 4) Try.underlying4 (by kernel_rfl) (by kernel_rfl) (of_decide_eq_true (by kernel_rfl)) rfl (fun ds h => ?_) hW fun p hA => ?_
  · match ds, h with
    | [_, _, _, _], _ => rfl
  · rw [Try.params5] at hA hval
    obtain ⟨v0, vs0, d0, ds0, p0, q0, hargs, rfl, rfl, h0, r0⟩ := trodAll_cons hA
    obtain ⟨v1, vs1, d1, ds1, p1, q1, rfl, rfl, rfl, h1, r1⟩ := trodAll_cons r0
    obtain ⟨v2, vs2, d2, ds2, p2, q2, rfl, rfl, rfl, h2, r2⟩ := trodAll_cons r1
    obtain ⟨v3, vs3, d3, ds3, p3, q3, rfl, rfl, rfl, h3, r3⟩ := trodAll_cons r2
    obtain ⟨rfl, rfl, rfl⟩ := trodAll_nil r3
    obtain rfl : args = #[v0, v1, v2, v3] := by cases args; simp_all
    obtain ⟨rooms, g0, e0⟩ := Hb.arg_agg Hb.opens_four (Hb.okWide_array Try.underlying22 (hval 0 22 v0 rfl rfl)) h0
    have hl : Hb.Opens enc Try.prog W 25 Hb.Ints (fun l => [Hb.encI l]) := Hb.opens_ints Try.underlying25 Try.underlying3 (by kernel_rfl)
    obtain ⟨f, g1, e1⟩ := Hb.arg_one hl (Hb.okWide_sl Try.underlying25 (hval 1 25 v1 rfl rfl)) h1
    obtain ⟨l, g2, e2⟩ := Hb.arg_one hl (Hb.okWide_sl Try.underlying25 (hval 2 25 v2 rfl rfl)) h2
    obtain ⟨ch, g3, e3⟩ := Hb.arg_one (Hb.opens_i64 Try.underlying3) (Hb.okWide_in Try.underlying3 (hval 3 3 v3 rfl rfl)) h3
    exact Hb.top_true (Hb.choiceLaw_c g0.1 g0.2 g1 g2 g3) ⟨_, _, rfl, e0, _, _, rfl, e1, _, _, rfl, e2, _, _, rfl, e3, rfl⟩

theorem over : Rows.chansChoiceRow.holds Try.pinned (OpenSpec.ofChange Rows.chansChoiceSpec) :=
  OpenClaim.holds_of_wide 5 Try.f5 rfl rfl rfl rfl rfl rfl rfl ⟨rfl, rfl, rfl, rfl, rfl⟩ rfl rfl rfl rfl rfl (by kernel_rfl) Try.func5 (by kernel_rfl)
    (of_decide_eq_true (by kernel_rfl)) (by unfold Func.isWrapper; first | (rw [if_pos (by decide +kernel)]; kernel_rfl) | (rw [if_neg (by decide +kernel)]; exact ⟨rfl, rfl⟩))
    (fun os started H enc _ => lifted os started H enc)

/-- ████ THE STATEMENT ████ -/
theorem proved : Rows.ChansChoiceSaid :=
  over
#print axioms proved
end Go.Proofs.Ytgaaocndjaoihaa.chansChoice
