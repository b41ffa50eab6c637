/-
  codeApart: the statement holds. CONDITIONS: those of the given statement (any input), none other.
-/
import Derived.Test.YtcpmmldgimhppaaRows
import Derived.Test.YtcpmmldgimhppaaSF
set_option linter.unusedVariables false
set_option linter.unusedSimpArgs false
namespace Go.Proofs.Ytcpmmldgimhppaa.codeApart
open Go.ChangeShapes Go.WideShapes Go.ChangeAt Go.RowKit
theorem own : ownKnob Try.prog.godebug = none := by kernel_rfl
set_option maxRecDepth 100000 in
theorem lifted (os : Os) (started : os.Started) (H : Type) (enc : TypeId × Value → H) :
    ReturnsInHanded {} Try.checked os 5 .any (Rows.codeApartSpec.pre6 enc Try.prog Try.f5 Rows.codeApartRow.domain false) (Rows.codeApartSpec.post enc Try.prog Try.f5 false true false false) := by
  refine returnsInHanded_of_change_sized (C := Try.checked) own started (by kernel_rfl) Try.func5
    (ChangeSpec.witness6 (enc := enc) (C := Try.checked) false ⟨#[], #[.agg #[.slice none 0 0, .int .i64 0, .slice none 0 0, .slice none 0 0, .slice none 0 0, .slice none 0 0, .int .i64 0], .agg #[.slice none 0 0, .int .i64 0, .slice none 0 0, .slice none 0 0, .slice none 0 0, .slice none 0 0, .int .i64 0]], []⟩ 8 (by kernel_rfl) (by kernel_rfl) (by kernel_rfl) (by kernel_rfl)) ?_
  intro W base args ds gs before hval hW _ hsz _
  refine Hb.law_step (tb := 4) Try.underlying4 (by kernel_rfl) (by kernel_rfl) (of_decide_eq_true (by kernel_rfl)) rfl (fun ds h => ?_) hW fun p hA => ?_
  · match ds, h with
    | [_, _], _ => rfl
  · rw [Try.params5] at hA hval hsz
    obtain ⟨v0, vs0, d0, ds0, p0, q0, hargs, rfl, rfl, h0, r0⟩ := trodAll_cons hA
    obtain ⟨v1, vs1, d1, ds1, p1, q1, rfl, rfl, rfl, h1, r1⟩ := trodAll_cons r0
    obtain ⟨rfl, rfl, rfl⟩ := trodAll_nil r1
    obtain rfl : args = #[v0, v1] := by cases args; simp_all
    obtain ⟨a0, g0, e0⟩ := Hb.arg_agg Hb.opens_prog (Hb.okWide_agg Try.underlying26 (hval 0 26 v0 rfl rfl)) h0 (Hb.near_each hsz (j := 0) rfl rfl)
    obtain ⟨a1, g1, e1⟩ := Hb.arg_agg Hb.opens_prog (Hb.okWide_agg Try.underlying26 (hval 1 26 v1 rfl rfl)) h1 (Hb.near_each hsz (j := 1) rfl rfl)
    refine Hb.top_true (Hb.aCalls_mono (Hb.lawApart_p g0 g1 [] []) fun y s v h => h.1.symm) ⟨_, _, rfl, e0, _, _, rfl, e1, rfl⟩
theorem over : Rows.codeApartRow.holds Try.pinned (OpenSpec.ofChange Rows.codeApartSpec) :=
  OpenClaim.holds_of_wide 5 Try.f5 rfl rfl rfl rfl rfl rfl rfl ⟨rfl, rfl, rfl, rfl, rfl⟩ rfl rfl rfl rfl rfl (by kernel_rfl) Try.func5 (by kernel_rfl)
    (of_decide_eq_true (by kernel_rfl)) (by unfold Func.isWrapper; first | (rw [if_pos (by decide +kernel)]; kernel_rfl) | (rw [if_neg (by decide +kernel)]; exact ⟨rfl, rfl⟩))
    (fun os started H enc _ => lifted os started H enc)
/-- ████ THE STATEMENT ████ -/
theorem proved : Rows.CodeApartSaid :=
  over
#print axioms proved
end Go.Proofs.Ytcpmmldgimhppaa.codeApart
