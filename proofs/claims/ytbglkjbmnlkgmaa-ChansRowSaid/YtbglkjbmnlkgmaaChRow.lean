/-
  ChansRow: what is sent to one channel is received once, in the row in which it was sent. CONDITIONS: those of the given statement (any number of places, any row of truth values), none other.
-/
import Derived.Test.YtbglkjbmnlkgmaaRows
import Derived.WalkKit
import Derived.ProofKit
import Derived.OpenShut
import Derived.Test.YtbglkjbmnlkgmaaHbTop
import Derived.Test.YtbglkjbmnlkgmaaChL
namespace Go.Proofs.Ytbglkjbmnlkgmaa.chansRow
open Go.ChangeShapes Go.WideShapes Go.ChangeAt Go.RowKit
set_option linter.unusedVariables false      -- a walk need not use every 'w<i>' (that an integer argument fits its kind)

theorem own : ownKnob Try.prog.godebug = none := by kernel_rfl

/-- THE WALK: the Go text returns true; of what was there nothing has turned. -/
theorem walk (a0 : Int) (v1 : Value) (w0 : (Lit.int .i64 a0).wf = true) (w : World) {l : List Bool} {x : Hb.LV} (hx : x = Hb.encB l ∨ (l = [] ∧ (x = .nils ∨ x = .emp 1))) (h1 : Hb.RelV (Hb.start w) x v1) :
    Calls Try.prog 4 #[.int .i64 a0, v1] w fun e w' => e = .returned (.bool true) ∧ Below w.heap.size w w' := by
  have b0 : -9223372036854775808 ≤ a0 ∧ a0 ≤ 9223372036854775807 := by simpa [Lit.wf, IntKind.min, IntKind.signed, IntKind.bits] using w0
  refine (Hb.top (Hb.row_c (v := []) hx b0.1 b0.2) ?_).mono ?_
  · simp only [Hb.RelVs]
    exact ⟨_, _, rfl, by simp [Hb.RelV], _, _, rfl, h1, rfl⟩
  · rintro e w' ⟨hB, C, x, u, s, v, rfl, hu, rfl, _⟩
    simp only [Hb.RelV] at hu
    subst hu
    exact ⟨rfl, hB⟩

/-! ### THE ROW's STEP: WRITTEN OUT: LEAVE IT -/
set_option maxRecDepth 100000 in
theorem lifted (os : Os) (started : os.Started) (H : Type) (enc : TypeId × Value → H) :
    ReturnsInHanded {} Try.checked os 4 .any (Rows.chansRowSpec.pre6 enc Try.prog Try.f4 Rows.chansRowRow.domain false) (Rows.chansRowSpec.post enc Try.prog Try.f4 false true false false) := by
  refine returnsInHanded_of_change (C := Try.checked) own started (by kernel_rfl) Try.func4
    (ChangeSpec.witness6 (enc := enc) (C := Try.checked) false ⟨#[], #[.int .i64 0, .slice none 0 0], []⟩ 8 (by kernel_rfl) (by kernel_rfl) (by kernel_rfl) (by kernel_rfl)) ?_
  intro W base args ds gs before hval0 hW hcnd _
  have hval : ∀ (j : Nat) t v, Try.f4.params[j]? = some t → args[j]? = some v → Value.okWide Try.prog W .any base t v := hval0
  have hW' := hW
  obtain ⟨p, q, hA0, hV, rfl, hfz, hnd⟩ := hW
  have hA : DataW.TrodAll enc Try.prog W 0 (fun _ => true) true Try.f4.params.toList args.toList ds p := hA0
  rw [Try.params4] at hA hval
  obtain ⟨v0, vs0, d0, ds0, p0, q0, hargs, rfl, rfl, h0, r0⟩ := trodAll_cons hA
  obtain ⟨v1, vs1, d1, ds1, p1, q1, rfl, rfl, rfl, h1, r1⟩ := trodAll_cons r0
  obtain ⟨rfl, rfl, rfl⟩ := trodAll_nil r1
  obtain rfl : args = #[v0, v1] := by cases args; simp_all
  obtain ⟨rfl, rfl⟩ := trodVars_none hV
  obtain ⟨a0, rfl, rfl, rfl, w0⟩ := open_int Try.underlying3 (hval 0 3 v0 rfl rfl) h0
  obtain ⟨A1, n1, c1, e1⟩ := okWide_slice Try.underlying39 (hval 1 39 v1 rfl rfl)
  obtain ⟨l, x, hx, hrel⟩ := Hb.rel_bools Try.underlying39 Try.underlying4 (by kernel_rfl) h1 (by subst e1; rfl)
  clear hA0 hval0
  simp only [List.append_nil, List.nil_append] at hW'
  refine (walk a0 v1 w0 W hx hrel).mono fun e W' ⟨he, hg⟩ => ?_
  subst he
  have hlt := hW'.lt
  exact ⟨_, rfl, Hb.post_below (pa := [] ++ (p1 ++ [])) (pv := []) hW' hg (fun _ _ _ => (trodAll_cons_mk (shut_bool Try.underlying4 _) trodAll_mk0)) (fun sp hsp => (trodAll_cons_mk (shut_int Try.underlying3 w0) (trodAll_cons_mk (WideElems.Trod_stays (by kernel_rfl) (by kernel_rfl) (of_decide_eq_true (by kernel_rfl)) h1 (fun x hx => hg.same (hlt x hx)) (fun x hx => hsp x hx)) trodAll_mk0))) (fun _ _ => rfl) (by simp)
    (ok_one (by kernel_rfl) rfl (okWide_bool_mk Try.underlying4 _))⟩

theorem over : Rows.chansRowRow.holds Try.pinned (OpenSpec.ofChange Rows.chansRowSpec) :=
  OpenClaim.holds_of_wide 4 Try.f4 rfl rfl rfl rfl rfl rfl rfl ⟨rfl, rfl, rfl, rfl, rfl⟩ rfl rfl rfl rfl rfl (by kernel_rfl) Try.func4 (by kernel_rfl)
    (of_decide_eq_true (by kernel_rfl)) (by unfold Func.isWrapper; first | (rw [if_pos (by decide +kernel)]; kernel_rfl) | (rw [if_neg (by decide +kernel)]; exact ⟨rfl, rfl⟩))
    (fun os started H enc _ => lifted os started H enc)

/-- ████ THE STATEMENT ████ -/
theorem proved : Rows.ChansRowSaid :=
  over
#print axioms proved
end Go.Proofs.Ytbglkjbmnlkgmaa.chansRow
