/-
  verifyRests: the statement holds. CONDITIONS: those of the given statement (any input), none other.
-/
import Derived.Test.YtdnbmcnckojglaaRows
import Derived.Test.YtdnbmcnckojglaaNL
set_option linter.unusedVariables false
set_option linter.unusedSimpArgs false
namespace Go.Proofs.Ytdnbmcnckojglaa.verifyRests
open Go.ChangeShapes Go.WideShapes Go.ChangeAt Go.RowKit
theorem own : ownKnob Try.prog.godebug = none := by kernel_rfl
set_option maxRecDepth 100000 in
theorem lifted (os : Os) (started : os.Started) (H : Type) (enc : TypeId × Value → H) :
    ReturnsInHanded {} Try.checked os 4 .any (Rows.verifyRestsSpec.pre6 enc Try.prog Try.f4 Rows.verifyRestsRow.domain false) (Rows.verifyRestsSpec.post enc Try.prog Try.f4 false true false false) := by
  refine returnsInHanded_of_change_sized (C := Try.checked) own started (by kernel_rfl) Try.func4
    (ChangeSpec.witness6 (enc := enc) (C := Try.checked) false ⟨#[], #[.agg #[.slice none 0 0, .int .i64 0, .slice none 0 0, .slice none 0 0, .slice none 0 0, .slice none 0 0, .int .i64 0], .slice none 0 0, .int .i64 0, .int .i64 0], []⟩ 8 (by kernel_rfl) (by kernel_rfl) (by kernel_rfl) (by kernel_rfl)) ?_
  intro W base args ds gs before hval hW _ hsz _
  refine Hb.law_step (tb := 4) Try.underlying4 (by kernel_rfl) (by kernel_rfl) (of_decide_eq_true (by kernel_rfl)) rfl (fun ds h => ?_) hW fun p hA => ?_
  · match ds, h with
    | [_, _, _, _], _ => rfl
  · rw [Try.params4] at hA hval hsz
    obtain ⟨v0, vs0, d0, ds0, p0, q0, hargs, rfl, rfl, h0, r0⟩ := trodAll_cons hA
    obtain ⟨v1, vs1, d1, ds1, p1, q1, rfl, rfl, rfl, h1, r1⟩ := trodAll_cons r0
    obtain ⟨v2, vs2, d2, ds2, p2, q2, rfl, rfl, rfl, h2, r2⟩ := trodAll_cons r1
    obtain ⟨v3, vs3, d3, ds3, p3, q3, rfl, rfl, rfl, h3, r3⟩ := trodAll_cons r2
    obtain ⟨rfl, rfl, rfl⟩ := trodAll_nil r3
    obtain rfl : args = #[v0, v1, v2, v3] := by cases args; simp_all
    obtain ⟨a0, g0, e0⟩ := Hb.arg_agg Hb.opens_prog (Hb.okWide_agg Try.underlying26 (hval 0 26 v0 rfl rfl)) h0 (Hb.near_each hsz (j := 0) rfl rfl)
    obtain ⟨a1, g1, e1⟩ := Hb.arg_one Hb.opens_row_ (Hb.okWide_sl Try.underlying23 (hval 1 23 v1 rfl rfl)) h1 (Hb.near_each hsz (j := 1) rfl rfl)
    obtain ⟨a2, g2, e2⟩ := Hb.arg_one Hb.opens_int_ (Hb.okWide_in Try.underlying3 (hval 2 3 v2 rfl rfl)) h2 (Hb.near_each hsz (j := 2) rfl rfl)
    obtain ⟨a3, g3, e3⟩ := Hb.arg_one Hb.opens_int_ (Hb.okWide_in Try.underlying3 (hval 3 3 v3 rfl rfl)) h3 (Hb.near_each hsz (j := 3) rfl rfl)
    refine Hb.top_true (Hb.aCalls_mono (Hb.lawRests_p g0 g1 g2 g3 [] []) fun y s v h => h.1.symm) ⟨_, _, rfl, e0, _, _, rfl, e1, _, _, rfl, e2, _, _, rfl, e3, rfl⟩
theorem over : Rows.verifyRestsRow.holds Try.pinned (OpenSpec.ofChange Rows.verifyRestsSpec) :=
  OpenClaim.holds_of_wide 4 Try.f4 rfl rfl rfl rfl rfl rfl rfl ⟨rfl, rfl, rfl, rfl, rfl⟩ rfl rfl rfl rfl rfl (by kernel_rfl) Try.func4 (by kernel_rfl)
    (of_decide_eq_true (by kernel_rfl)) (by unfold Func.isWrapper; first | (rw [if_pos (by decide +kernel)]; kernel_rfl) | (rw [if_neg (by decide +kernel)]; exact ⟨rfl, rfl⟩))
    (fun os started H enc _ => lifted os started H enc)
theorem proved : Rows.VerifyRestsSaid :=
  over
#print axioms proved
end Go.Proofs.Ytdnbmcnckojglaa.verifyRests
