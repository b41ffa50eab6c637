/-
  verifyRules: the statement holds. CONDITIONS: those of the given statement (any input), none other.
-/
import Derived.Test.YtdnbmcnckojglaaGreatRows
import Derived.Test.YtdnbmcnckojglaaGreatVO
set_option linter.unusedVariables false
set_option linter.unusedSimpArgs false
namespace Go.Proofs.YtdnbmcnckojglaaGreat.verifyRules
open Go.ChangeShapes Go.WideShapes Go.ChangeAt Go.RowKit
theorem own : ownKnob Tryz.prog.godebug = none := by kernel_rfl
set_option maxRecDepth 100000 in
theorem lifted (os : Os) (started : os.Started) (H : Type) (enc : TypeId × Value → H) :
  ReturnsInHanded {} Tryz.checked os 3 .any (Rows.verifyRulesSpec.pre6 enc Tryz.prog Tryz.f3 Rows.verifyRulesRow.domain false) (Rows.verifyRulesSpec.post enc Tryz.prog Tryz.f3 false true false false) := by
 refine returnsInHanded_of_change_sized (C := Tryz.checked) own started (by kernel_rfl) Tryz.func3
  (ChangeSpec.witness6 (enc := enc) (C := Tryz.checked) false ⟨#[], #[.agg #[.slice none 0 0, .int .i64 0, .slice none 0 0, .slice none 0 0, .slice none 0 0, .slice none 0 0, .int .i64 0], .slice none 0 0, .agg #[.int .i64 0, .int .i64 0, .int .i64 0], .agg #[.int .i64 0, .int .i64 0, .int .i64 0], .int .i64 0], []⟩ 8 (by kernel_rfl) (by kernel_rfl) (by kernel_rfl) (by kernel_rfl)) ?_
 intro W base args ds gs before hval hW _ hsz _
 refine Hb.law_step (tb := 4) Tryz.underlying4 (by kernel_rfl) (by kernel_rfl) (of_decide_eq_true (by kernel_rfl)) rfl (fun ds h => ?_) hW fun p hA => ?_
 ·match ds, h with
  | [_, _, _, _, _], _ => rfl
 ·rw [Tryz.params3] at hA hval hsz
  obtain ⟨v0, vs0, d0, ds0, p0, q0, hargs, rfl, rfl, h0, r0⟩ := trodAll_cons hA
  obtain ⟨v1, vs1, d1, ds1, p1, q1, rfl, rfl, rfl, h1, r1⟩ := trodAll_cons r0
  obtain ⟨v2, vs2, d2, ds2, p2, q2, rfl, rfl, rfl, h2, r2⟩ := trodAll_cons r1
  obtain ⟨v3, vs3, d3, ds3, p3, q3, rfl, rfl, rfl, h3, r3⟩ := trodAll_cons r2
  obtain ⟨v4, vs4, d4, ds4, p4, q4, rfl, rfl, rfl, h4, r4⟩ := trodAll_cons r3
  obtain ⟨rfl, rfl, rfl⟩ := trodAll_nil r4
  obtain rfl : args = #[v0, v1, v2, v3, v4] := by cases args; simp_all
  obtain ⟨a0, g0, e0⟩ := Hb.arg_agg Hb.opens_prog (Hb.okWide_agg Tryz.underlying26 (hval 0 26 v0 rfl rfl)) h0 (Hb.near_each hsz (j := 0) rfl rfl)
  obtain ⟨a1, g1, e1⟩ := Hb.arg_one Hb.opens_row_ (Hb.okWide_sl Tryz.underlying23 (hval 1 23 v1 rfl rfl)) h1 (Hb.near_each hsz (j := 1) rfl rfl)
  obtain ⟨a2, g2, e2⟩ := Hb.arg_agg Hb.opens_arr3 (Hb.okWide_array Tryz.underlying27 (hval 2 27 v2 rfl rfl)) h2 (Hb.near_each hsz (j := 2) rfl rfl)
  obtain ⟨a3, g3, e3⟩ := Hb.arg_agg Hb.opens_arr3 (Hb.okWide_array Tryz.underlying27 (hval 3 27 v3 rfl rfl)) h3 (Hb.near_each hsz (j := 3) rfl rfl)
  obtain ⟨a4, g4, e4⟩ := Hb.arg_one Hb.opens_int_ (Hb.okWide_in Tryz.underlying3 (hval 4 3 v4 rfl rfl)) h4 (Hb.near_each hsz (j := 4) rfl rfl)
  obtain ⟨x2, y2, z2, rfl⟩ := Hb.three g2.1
  have k2 := g2.2
  simp only [List.mem_cons, List.not_mem_nil, or_false, forall_eq_or_imp, forall_eq] at k2
  obtain ⟨x3, y3, z3, rfl⟩ := Hb.three g3.1
  have k3 := g3.2
  simp only [List.mem_cons, List.not_mem_nil, or_false, forall_eq_or_imp, forall_eq] at k3
  refine Hb.top_true (Hb.aCalls_mono (Hb.lawRules_p g0 g1 k2.1 k2.2.1 k3.1 k3.2.1 [] []) fun y s v h => h.1.symm) ⟨_, _, rfl, e0, _, _, rfl, e1, _, _, rfl, e2, _, _, rfl, e3, _, _, rfl, e4, rfl⟩
theorem over : Rows.verifyRulesRow.holds Tryz.pinned (OpenSpec.ofChange Rows.verifyRulesSpec) :=
 OpenClaim.holds_of_wide 3 Tryz.f3 rfl rfl rfl rfl rfl rfl rfl ⟨rfl, rfl, rfl, rfl, rfl⟩ rfl rfl rfl rfl rfl (by kernel_rfl) Tryz.func3 (by kernel_rfl)
  (of_decide_eq_true (by kernel_rfl)) (by unfold Func.isWrapper; first | (rw [if_pos (by decide +kernel)]; kernel_rfl) | (rw [if_neg (by decide +kernel)]; exact ⟨rfl, rfl⟩))
  (fun os started H enc _ => lifted os started H enc)
theorem proved : Rows.VerifyRulesSaid :=
 over
#print axioms proved
end Go.Proofs.YtdnbmcnckojglaaGreat.verifyRules
