/-
  codeRound: the statement holds. CONDITIONS: those of the given statement (any input), none other.
-/
import Derived.Test.YtcpmmldgimhppaaGreatRows
import Derived.Test.YtcpmmldgimhppaaGreatZR
set_option linter.unusedVariables false
set_option linter.unusedSimpArgs false
namespace Go.Proofs.YtcpmmldgimhppaaGreat.codeRound
open Go.ChangeShapes Go.WideShapes Go.ChangeAt Go.RowKit
theorem own : ownKnob Tryz.prog.godebug = none := by kernel_rfl
set_option maxRecDepth 100000 in
theorem lifted (os : Os) (started : os.Started) (H : Type) (enc : TypeId × Value → H) :
    ReturnsInHanded {} Tryz.checked os 4 .any (Rows.codeRoundSpec.pre6 enc Tryz.prog Tryz.f4 Rows.codeRoundRow.domain false) (Rows.codeRoundSpec.post enc Tryz.prog Tryz.f4 false true false false) := by
  refine returnsInHanded_of_change_sized (C := Tryz.checked) own started (by kernel_rfl) Tryz.func4
    (ChangeSpec.witness6 (enc := enc) (C := Tryz.checked) false ⟨#[], #[.agg #[.slice none 0 0, .int .i64 0, .slice none 0 0, .slice none 0 0, .slice none 0 0, .slice none 0 0, .int .i64 0]], []⟩ 8 (by kernel_rfl) (by kernel_rfl) (by kernel_rfl) (by kernel_rfl)) ?_
  intro W base args ds gs before hval hW _ hsz _
  refine Hb.law_step (tb := 4) Tryz.underlying4 (by kernel_rfl) (by kernel_rfl) (of_decide_eq_true (by kernel_rfl)) rfl (fun ds h => ?_) hW fun p hA => ?_
  · match ds, h with
    | [_], _ => rfl
  · rw [Tryz.params4] at hA hval hsz
    obtain ⟨v0, vs0, d0, ds0, p0, q0, hargs, rfl, rfl, h0, r0⟩ := trodAll_cons hA
    obtain ⟨rfl, rfl, rfl⟩ := trodAll_nil r0
    obtain rfl : args = #[v0] := by cases args; simp_all
    obtain ⟨a0, g0, e0⟩ := Hb.arg_agg Hb.opens_prog (Hb.okWide_agg Tryz.underlying27 (hval 0 27 v0 rfl rfl)) h0 (Hb.near_each hsz (j := 0) rfl rfl)
    refine Hb.top_true (Hb.aCalls_mono (Hb.lawRound_p g0 [] []) fun y s v h => h.1.symm) ⟨_, _, rfl, e0, rfl⟩
theorem over : Rows.codeRoundRow.holds Tryz.pinned (OpenSpec.ofChange Rows.codeRoundSpec) :=
  OpenClaim.holds_of_wide 4 Tryz.f4 rfl rfl rfl rfl rfl rfl rfl ⟨rfl, rfl, rfl, rfl, rfl⟩ rfl rfl rfl rfl rfl (by kernel_rfl) Tryz.func4 (by kernel_rfl)
    (of_decide_eq_true (by kernel_rfl)) (by unfold Func.isWrapper; first | (rw [if_pos (by decide +kernel)]; kernel_rfl) | (rw [if_neg (by decide +kernel)]; exact ⟨rfl, rfl⟩))
    (fun os started H enc _ => lifted os started H enc)
/-- ████ THE STATEMENT ████ -/
theorem proved : Rows.CodeRoundSaid :=
  over
#print axioms proved
end Go.Proofs.YtcpmmldgimhppaaGreat.codeRound
