/-
  A layer for reasoning about the program's calls, and contracts of its functions (N). CONDITIONS: none; each theorem bears its own.
-/
import Derived.Test.YtcpmmldgimhppaaGreatK
import Derived.Test.YtcpmmldgimhppaaGreatE
set_option linter.unusedVariables false
set_option linter.unusedSimpArgs false
namespace Go.Hb
open Go Go.Proofs Go.RowKit
set_option maxRecDepth 100000
set_option maxHeartbeats 800000
attribute [-simp] aC aL aOper aThen aInBlock aIf aPlan aAppend aLen aIndexAddr aSlice aCells aBounds lBr aq initT aev aAppendOwn aAppendNil aAppendNew aAppendRef LV.cells LV.cellsOk getElem?_pos getElem?_neg

theorem same1_p {a b : List UInt8} (ha : a.length ≤ 9223372036854775807) : PureE Tryz.prog 13 [row a, row b] (.bool (decide (a = b))) := by
  refine .of fun s v => ?_
  refine aCalls_go Tryz.func13 rfl (by decide) Tryz.ntmps13 (by simp) false ?_
  have hres : Tryz.f13.results = #[.tmp 4] := rfl
  by_cases hl : a.length = b.length
  · repeat' (first | with_reducible refine br_t ?_ | with_reducible refine br_f ?_ | with_reducible refine br_dec (fun _ => ?_) (fun _ => ?_) | with_reducible refine g_dec (fun _ => ?_) (fun _ => ?_) | with_reducible refine g_ndec (fun _ => ?_) (fun _ => ?_) | with_reducible refine br_not (fun _ => ?_) (fun _ => ?_) | with_reducible refine br_split (fun _ => ?_) (fun _ => ?_) | with_reducible refine g_not (fun _ => ?_) (fun _ => ?_) | with_reducible refine g_split (fun _ => ?_) (fun _ => ?_) | with_reducible refine px_dec (fun _ => ?_) (fun _ => ?_) | with_reducible refine px_ndec (fun _ => ?_) (fun _ => ?_) | with_reducible refine px_split (fun _ => ?_) (fun _ => ?_) | (with_reducible refine aWh_draw (own := false) (id := 6) (.qs [0, 1, 2, 3, 4, 5, 6, 7, 8] .nil) mixed ?_ ?_ ?_; kernel_rfl; kernel_rfl) | simp -implicitDefEqProofs (maxSteps := 2000000) (disch := first | assumption | omega) [*, ])
    refine aW_for (β := Unit) false a.length (fun k _ => a.take k = b.take k) (fun k _ => [(5, .int .i64 k), (11, .any), (12, .any), (13, .any), (14, .any), (17, .any), (18, .any), (19, .any), (20, .any), (21, .any), (22, .any), (23, .any), (24, .any), (25, .any), (4, .any), (15, .any), (16, .any)]) (fun _ _ => s) (fun _ _ => v) ?_ ?_
    · exact ⟨(), by simp, by (refine Fits.of ?_ (Off.refl _ _); simp [upd_apply, upds_cons]), rfl, rfl⟩
    rintro k _ hk hI
    by_cases hlt : k < a.length
    · have hlb : k < b.length := by omega
      by_cases hn : nth a k = nth b k
      · repeat' (first | with_reducible refine br_t ?_ | with_reducible refine br_f ?_ | with_reducible refine br_dec (fun _ => ?_) (fun _ => ?_) | with_reducible refine g_dec (fun _ => ?_) (fun _ => ?_) | with_reducible refine g_ndec (fun _ => ?_) (fun _ => ?_) | with_reducible refine br_not (fun _ => ?_) (fun _ => ?_) | with_reducible refine br_split (fun _ => ?_) (fun _ => ?_) | with_reducible refine g_not (fun _ => ?_) (fun _ => ?_) | with_reducible refine g_split (fun _ => ?_) (fun _ => ?_) | with_reducible refine px_dec (fun _ => ?_) (fun _ => ?_) | with_reducible refine px_ndec (fun _ => ?_) (fun _ => ?_) | with_reducible refine px_split (fun _ => ?_) (fun _ => ?_) | (with_reducible refine aWh_draw (own := false) (id := 6) (.qs [0, 1, 2, 3, 4, 5, 6, 7, 8] .nil) mixed ?_ ?_ ?_; kernel_rfl; kernel_rfl) | simp -implicitDefEqProofs (maxSteps := 2000000) (disch := first | assumption | omega) [*, ])
        exact ⟨hlt, (), by show a.take (k + 1) = b.take (k + 1); rw [take_succ_nth hlt, take_succ_nth hlb, hI, hn], by (refine Fits.of ?_ ?_; rotate_left; (repeat (first | with_reducible exact Off.refl _ _ | refine Off.upd rfl ?_ | refine Off.updO rfl ?_ | refine Off.upds rfl ?_)); simp [upd_apply, upds_cons]), rfl, rfl⟩
      · have hne : ((nth a k).toNat : Int) ≠ ((nth b k).toNat : Int) := by
          intro h; apply hn; apply UInt8.toNat_inj.1; omega
        have hd : a ≠ b := by rintro rfl; exact hn rfl
        repeat' (first | with_reducible refine br_t ?_ | with_reducible refine br_f ?_ | with_reducible refine br_dec (fun _ => ?_) (fun _ => ?_) | with_reducible refine g_dec (fun _ => ?_) (fun _ => ?_) | with_reducible refine g_ndec (fun _ => ?_) (fun _ => ?_) | with_reducible refine br_not (fun _ => ?_) (fun _ => ?_) | with_reducible refine br_split (fun _ => ?_) (fun _ => ?_) | with_reducible refine g_not (fun _ => ?_) (fun _ => ?_) | with_reducible refine g_split (fun _ => ?_) (fun _ => ?_) | with_reducible refine px_dec (fun _ => ?_) (fun _ => ?_) | with_reducible refine px_ndec (fun _ => ?_) (fun _ => ?_) | with_reducible refine px_split (fun _ => ?_) (fun _ => ?_) | (with_reducible refine aWh_draw (own := false) (id := 6) (.qs [0, 1, 2, 3, 4, 5, 6, 7, 8] .nil) mixed ?_ ?_ ?_; kernel_rfl; kernel_rfl) | simp -implicitDefEqProofs (maxSteps := 2000000) (disch := first | assumption | omega) [*, ])
        exact EndsE.eq (by simp [hd]) (by simp)
    · have : k = a.length := by omega
      subst this
      have hd : a = b := by rw [List.take_of_length_le (Nat.le_refl _), List.take_of_length_le (by omega)] at hI; exact hI
      repeat' (first | with_reducible refine br_t ?_ | with_reducible refine br_f ?_ | with_reducible refine br_dec (fun _ => ?_) (fun _ => ?_) | with_reducible refine g_dec (fun _ => ?_) (fun _ => ?_) | with_reducible refine g_ndec (fun _ => ?_) (fun _ => ?_) | with_reducible refine br_not (fun _ => ?_) (fun _ => ?_) | with_reducible refine br_split (fun _ => ?_) (fun _ => ?_) | with_reducible refine g_not (fun _ => ?_) (fun _ => ?_) | with_reducible refine g_split (fun _ => ?_) (fun _ => ?_) | with_reducible refine px_dec (fun _ => ?_) (fun _ => ?_) | with_reducible refine px_ndec (fun _ => ?_) (fun _ => ?_) | with_reducible refine px_split (fun _ => ?_) (fun _ => ?_) | (with_reducible refine aWh_draw (own := false) (id := 6) (.qs [0, 1, 2, 3, 4, 5, 6, 7, 8] .nil) mixed ?_ ?_ ?_; kernel_rfl; kernel_rfl) | simp -implicitDefEqProofs (maxSteps := 2000000) (disch := first | assumption | omega) [*, ])
      exact EndsE.eq (by simp [hd]) (by simp)
  · have hd : a ≠ b := by rintro rfl; exact hl rfl
    have hl' : (a.length : Int) ≠ b.length := by omega
    repeat' (first | with_reducible refine br_t ?_ | with_reducible refine br_f ?_ | with_reducible refine br_dec (fun _ => ?_) (fun _ => ?_) | with_reducible refine g_dec (fun _ => ?_) (fun _ => ?_) | with_reducible refine g_ndec (fun _ => ?_) (fun _ => ?_) | with_reducible refine br_not (fun _ => ?_) (fun _ => ?_) | with_reducible refine br_split (fun _ => ?_) (fun _ => ?_) | with_reducible refine g_not (fun _ => ?_) (fun _ => ?_) | with_reducible refine g_split (fun _ => ?_) (fun _ => ?_) | with_reducible refine px_dec (fun _ => ?_) (fun _ => ?_) | with_reducible refine px_ndec (fun _ => ?_) (fun _ => ?_) | with_reducible refine px_split (fun _ => ?_) (fun _ => ?_) | (with_reducible refine aWh_draw (own := false) (id := 6) (.qs [0, 1, 2, 3, 4, 5, 6, 7, 8] .nil) mixed ?_ ?_ ?_; kernel_rfl; kernel_rfl) | simp -implicitDefEqProofs (maxSteps := 2000000) (disch := first | assumption | omega) [*, ])
    exact EndsE.eq (by simp [hd]) (by simp)

def nine : List UInt8 := [1, 0, 0, 0, 0, 0, 0, 0, 1]
theorem lives_p : PureC Tryz.prog 14 [] (.bool true) := by
  refine .of fun s v => ?_
  have hw : PureC Tryz.prog 12 [.agg [.imm 2 1 [.int .i64 0, .nils] .full, .int .i64 0, .nils, .nils, .nils, .nils, .int .i64 1]] (.tup [row nine, .int .i64 0]) := fun s v => by
    refine aCalls_argw (args' := [.agg [row [(⟨0, []⟩ : Fn_)], .int .i64 0, row ([] : List Int), row ([] : List Int), row ([] : List Int), row ([] : List (List Int)), .int .i64 1]]) ⟨?_, trivial⟩ ?_
    · exact Weak.agg ⟨Weak.row (l := [(⟨0, []⟩ : Fn_)]) ⟨Weak.refl _, Weak.nilrow, trivial⟩ rfl, Weak.refl _, Weak.nilrow, Weak.nilrow, Weak.nilrow, Weak.nilrow, Weak.refl _, trivial⟩
    · have hm := cmay_p (fs := [⟨0, []⟩]) (mu := 0) (th := 1) (co := []) (se := []) (ch := []) (cho := []) (by simp) (by simp) (by simp) (by simp) (by simp) (by constructor <;> omega) (fun _ k hk => absurd hk (by simp))
      have he : mayP ⟨[⟨0, []⟩], 0, [], [], [], [], 1⟩ = true := by decide
      rw [he] at hm
      have := cwrite_p hm he s v
      have hb : writeP ⟨[⟨0, []⟩], 0, [], [], [], [], 1⟩ = nine := by simp [writeP, fnB, listB, shortB, shortN, nine]
      rw [hb] at this
      exact this
  have hs : PureE Tryz.prog 13 [row nine, .imm 1 9 [.int .u8 1, .int .u8 0, .int .u8 0, .int .u8 0, .int .u8 0, .int .u8 0, .int .u8 0, .int .u8 0, .int .u8 1] .full] (.bool true) := fun s v =>
    aCalls_argw (args' := [row nine, row nine]) ⟨Weak.refl _, Weak.row (l := nine) (Weaks.refl _) rfl, trivial⟩ (by have h := same1_p (a := nine) (b := nine) (by simp [nine]) s v; simpa using h)
  refine aCalls_go Tryz.func14 rfl (by decide) Tryz.ntmps14 (by simp) false ?_
  have hres : Tryz.f14.results = #[.tmp 0] := rfl
  repeat' (first | with_reducible refine br_t ?_ | with_reducible refine br_f ?_ | with_reducible refine br_dec (fun _ => ?_) (fun _ => ?_) | with_reducible refine g_dec (fun _ => ?_) (fun _ => ?_) | with_reducible refine g_ndec (fun _ => ?_) (fun _ => ?_) | with_reducible refine br_not (fun _ => ?_) (fun _ => ?_) | with_reducible refine br_split (fun _ => ?_) (fun _ => ?_) | with_reducible refine g_not (fun _ => ?_) (fun _ => ?_) | with_reducible refine g_split (fun _ => ?_) (fun _ => ?_) | with_reducible refine px_dec (fun _ => ?_) (fun _ => ?_) | with_reducible refine px_ndec (fun _ => ?_) (fun _ => ?_) | with_reducible refine px_split (fun _ => ?_) (fun _ => ?_) | with_reducible refine callC hw (fun v1 hv1 => ?_) | with_reducible refine callE hs ?_ | simp -implicitDefEqProofs (maxSteps := 2000000) (disch := first | assumption | omega) [*, ])
  exact Ends.eq rfl (by simp) hv1
end Go.Hb
