/-
  A layer for reasoning about the program's calls, and contracts of its functions (S). CONDITIONS: none; each theorem bears its own.
-/
import Derived.Test.YtcpmmldgimhppaaA
import Derived.Test.YtcpmmldgimhppaaL8
import Derived.Test.YtcpmmldgimhppaaP
import Derived.Test.YtcpmmldgimhppaaR
import Derived.Test.YtcpmmldgimhppaaL9
set_option linter.unusedVariables false
set_option linter.unusedSimpArgs false
section
namespace Go.Hb
open Go Go.Proofs Go.RowKit
set_option maxRecDepth 100000
set_option maxHeartbeats 800000
attribute [-simp] aC aL aOper aThen aInBlock aIf aPlan aAppend aLen aIndexAddr aSlice aCells aBounds lBr aq initT aev aAppendOwn aAppendNil aAppendNew aAppendRef LV.cells LV.cellsOk getElem?_pos getElem?_neg
theorem ins_ne {x y : Ins} (h : x ≠ y) : ¬ (x.op = y.op ∧ x.a = y.a) := fun ⟨h1, h2⟩ => h (by cases x; cases y; simp_all)

theorem equalI_p {a b : List Int} (ha : a.length ≤ 9223372036854775807) : PureE Try.prog 49 [row a, row b] (.bool (decide (a = b))) := by
  refine .of fun s v => ?_
  refine aCalls_go Try.func49 rfl (by decide) Try.ntmps49 (by simp) false ?_
  have hres : Try.f49.results = #[.tmp 4] := rfl
  by_cases hl : a.length = b.length
  · repeat' (first | with_reducible refine br_t ?_ | with_reducible refine br_f ?_ | with_reducible refine br_dec (fun _ => ?_) (fun _ => ?_) | with_reducible refine g_dec (fun _ => ?_) (fun _ => ?_) | with_reducible refine g_ndec (fun _ => ?_) (fun _ => ?_) | with_reducible refine br_not (fun _ => ?_) (fun _ => ?_) | with_reducible refine br_split (fun _ => ?_) (fun _ => ?_) | with_reducible refine g_not (fun _ => ?_) (fun _ => ?_) | with_reducible refine g_split (fun _ => ?_) (fun _ => ?_) | with_reducible refine px_dec (fun _ => ?_) (fun _ => ?_) | with_reducible refine px_ndec (fun _ => ?_) (fun _ => ?_) | with_reducible refine px_split (fun _ => ?_) (fun _ => ?_) | (with_reducible refine aWh_draw (own := false) (id := 6) (.qs [0, 1, 2, 3, 4, 5, 6, 7, 8] .nil) mixed ?_ ?_ ?_; kernel_rfl; kernel_rfl) | simp -implicitDefEqProofs (maxSteps := 2000000) (disch := first | assumption | omega) [*, ])
    refine aW_for (β := Unit) false a.length (fun k _ => a.take k = b.take k) (fun k _ => [(13, .int .i64 k), (14, .any), (15, .any), (5, .any), (16, .any), (17, .any), (18, .any), (19, .any), (20, .any), (21, .any), (22, .any), (23, .any), (24, .any), (4, .any), (25, .any)]) (fun _ _ => s) (fun _ _ => v) ?_ ?_
    · exact ⟨(), by simp, by (refine Fits.of ?_ (Off.refl _ _); simp [upd_apply, upds_cons]), rfl, rfl⟩
    rintro k _ hk hI
    by_cases hlt : k < a.length
    · have hlb : k < b.length := by omega
      by_cases hn : nth a k = nth b k
      · repeat' (first | with_reducible refine br_t ?_ | with_reducible refine br_f ?_ | with_reducible refine br_dec (fun _ => ?_) (fun _ => ?_) | with_reducible refine g_dec (fun _ => ?_) (fun _ => ?_) | with_reducible refine g_ndec (fun _ => ?_) (fun _ => ?_) | with_reducible refine br_not (fun _ => ?_) (fun _ => ?_) | with_reducible refine br_split (fun _ => ?_) (fun _ => ?_) | with_reducible refine g_not (fun _ => ?_) (fun _ => ?_) | with_reducible refine g_split (fun _ => ?_) (fun _ => ?_) | with_reducible refine px_dec (fun _ => ?_) (fun _ => ?_) | with_reducible refine px_ndec (fun _ => ?_) (fun _ => ?_) | with_reducible refine px_split (fun _ => ?_) (fun _ => ?_) | (with_reducible refine aWh_draw (own := false) (id := 6) (.qs [0, 1, 2, 3, 4, 5, 6, 7, 8] .nil) mixed ?_ ?_ ?_; kernel_rfl; kernel_rfl) | simp -implicitDefEqProofs (maxSteps := 2000000) (disch := first | assumption | omega) [*, ])
        exact ⟨hlt, (), by show a.take (k + 1) = b.take (k + 1); rw [take_succ_nth hlt, take_succ_nth hlb, hI, hn], by (refine Fits.of ?_ ?_; rotate_left; (repeat (first | with_reducible exact Off.refl _ _ | refine Off.upd rfl ?_ | refine Off.updO rfl ?_ | refine Off.upds rfl ?_)); simp [upd_apply, upds_cons]), rfl, rfl⟩
      · have hd : a ≠ b := by rintro rfl; exact hn rfl
        repeat' (first | with_reducible refine br_t ?_ | with_reducible refine br_f ?_ | with_reducible refine br_dec (fun _ => ?_) (fun _ => ?_) | with_reducible refine g_dec (fun _ => ?_) (fun _ => ?_) | with_reducible refine g_ndec (fun _ => ?_) (fun _ => ?_) | with_reducible refine br_not (fun _ => ?_) (fun _ => ?_) | with_reducible refine br_split (fun _ => ?_) (fun _ => ?_) | with_reducible refine g_not (fun _ => ?_) (fun _ => ?_) | with_reducible refine g_split (fun _ => ?_) (fun _ => ?_) | with_reducible refine px_dec (fun _ => ?_) (fun _ => ?_) | with_reducible refine px_ndec (fun _ => ?_) (fun _ => ?_) | with_reducible refine px_split (fun _ => ?_) (fun _ => ?_) | (with_reducible refine aWh_draw (own := false) (id := 6) (.qs [0, 1, 2, 3, 4, 5, 6, 7, 8] .nil) mixed ?_ ?_ ?_; kernel_rfl; kernel_rfl) | simp -implicitDefEqProofs (maxSteps := 2000000) (disch := first | assumption | omega) [*, ])
        all_goals exact EndsE.eq (by simp [hd]) (by simp)
    · have : k = a.length := by omega
      subst this
      have hd : a = b := by rw [List.take_of_length_le (Nat.le_refl _), List.take_of_length_le (by omega)] at hI; exact hI
      repeat' (first | with_reducible refine br_t ?_ | with_reducible refine br_f ?_ | with_reducible refine br_dec (fun _ => ?_) (fun _ => ?_) | with_reducible refine g_dec (fun _ => ?_) (fun _ => ?_) | with_reducible refine g_ndec (fun _ => ?_) (fun _ => ?_) | with_reducible refine br_not (fun _ => ?_) (fun _ => ?_) | with_reducible refine br_split (fun _ => ?_) (fun _ => ?_) | with_reducible refine g_not (fun _ => ?_) (fun _ => ?_) | with_reducible refine g_split (fun _ => ?_) (fun _ => ?_) | with_reducible refine px_dec (fun _ => ?_) (fun _ => ?_) | with_reducible refine px_ndec (fun _ => ?_) (fun _ => ?_) | with_reducible refine px_split (fun _ => ?_) (fun _ => ?_) | (with_reducible refine aWh_draw (own := false) (id := 6) (.qs [0, 1, 2, 3, 4, 5, 6, 7, 8] .nil) mixed ?_ ?_ ?_; kernel_rfl; kernel_rfl) | simp -implicitDefEqProofs (maxSteps := 2000000) (disch := first | assumption | omega) [*, ])
      all_goals exact EndsE.eq (by simp [hd]) (by simp)
  · have hd : a ≠ b := by rintro rfl; exact hl rfl
    have hl' : (a.length : Int) ≠ b.length := by omega
    repeat' (first | with_reducible refine br_t ?_ | with_reducible refine br_f ?_ | with_reducible refine br_dec (fun _ => ?_) (fun _ => ?_) | with_reducible refine g_dec (fun _ => ?_) (fun _ => ?_) | with_reducible refine g_ndec (fun _ => ?_) (fun _ => ?_) | with_reducible refine br_not (fun _ => ?_) (fun _ => ?_) | with_reducible refine br_split (fun _ => ?_) (fun _ => ?_) | with_reducible refine g_not (fun _ => ?_) (fun _ => ?_) | with_reducible refine g_split (fun _ => ?_) (fun _ => ?_) | with_reducible refine px_dec (fun _ => ?_) (fun _ => ?_) | with_reducible refine px_ndec (fun _ => ?_) (fun _ => ?_) | with_reducible refine px_split (fun _ => ?_) (fun _ => ?_) | (with_reducible refine aWh_draw (own := false) (id := 6) (.qs [0, 1, 2, 3, 4, 5, 6, 7, 8] .nil) mixed ?_ ?_ ?_; kernel_rfl; kernel_rfl) | simp -implicitDefEqProofs (maxSteps := 2000000) (disch := first | assumption | omega) [*, ])
    all_goals exact EndsE.eq (by simp [hd]) (by simp)

theorem rsameI_p {a b : List Int} (ha : a.length ≤ 9223372036854775807) : PureE Try.prog 51 [row a, row b] (.bool (decide (a = b))) := by
  refine .of fun s v => ?_
  refine aCalls_go Try.func51 rfl (by decide) Try.ntmps51 (by simp) false ?_
  have hres : Try.f51.results = #[.tmp 4] := rfl
  by_cases hl : a.length = b.length
  · repeat' (first | with_reducible refine br_t ?_ | with_reducible refine br_f ?_ | with_reducible refine br_dec (fun _ => ?_) (fun _ => ?_) | with_reducible refine g_dec (fun _ => ?_) (fun _ => ?_) | with_reducible refine g_ndec (fun _ => ?_) (fun _ => ?_) | with_reducible refine br_not (fun _ => ?_) (fun _ => ?_) | with_reducible refine br_split (fun _ => ?_) (fun _ => ?_) | with_reducible refine g_not (fun _ => ?_) (fun _ => ?_) | with_reducible refine g_split (fun _ => ?_) (fun _ => ?_) | with_reducible refine px_dec (fun _ => ?_) (fun _ => ?_) | with_reducible refine px_ndec (fun _ => ?_) (fun _ => ?_) | with_reducible refine px_split (fun _ => ?_) (fun _ => ?_) | (with_reducible refine aWh_draw (own := false) (id := 6) (.qs [0, 1, 2, 3, 4, 5, 6, 7, 8] .nil) mixed ?_ ?_ ?_; kernel_rfl; kernel_rfl) | simp -implicitDefEqProofs (maxSteps := 2000000) (disch := first | assumption | omega) [*, ])
    refine aW_for (β := Unit) false a.length (fun k _ => a.take k = b.take k) (fun k _ => [(5, .int .i64 k), (11, .any), (12, .any), (13, .any), (14, .any), (17, .any), (18, .any), (19, .any), (20, .any), (21, .any), (22, .any), (23, .any), (24, .any), (25, .any), (4, .any), (15, .any), (16, .any)]) (fun _ _ => s) (fun _ _ => v) ?_ ?_
    · exact ⟨(), by simp, by (refine Fits.of ?_ (Off.refl _ _); simp [upd_apply, upds_cons]), rfl, rfl⟩
    rintro k _ hk hI
    by_cases hlt : k < a.length
    · have hlb : k < b.length := by omega
      by_cases hn : nth a k = nth b k
      · repeat' (first | with_reducible refine br_t ?_ | with_reducible refine br_f ?_ | with_reducible refine br_dec (fun _ => ?_) (fun _ => ?_) | with_reducible refine g_dec (fun _ => ?_) (fun _ => ?_) | with_reducible refine g_ndec (fun _ => ?_) (fun _ => ?_) | with_reducible refine br_not (fun _ => ?_) (fun _ => ?_) | with_reducible refine br_split (fun _ => ?_) (fun _ => ?_) | with_reducible refine g_not (fun _ => ?_) (fun _ => ?_) | with_reducible refine g_split (fun _ => ?_) (fun _ => ?_) | with_reducible refine px_dec (fun _ => ?_) (fun _ => ?_) | with_reducible refine px_ndec (fun _ => ?_) (fun _ => ?_) | with_reducible refine px_split (fun _ => ?_) (fun _ => ?_) | (with_reducible refine aWh_draw (own := false) (id := 6) (.qs [0, 1, 2, 3, 4, 5, 6, 7, 8] .nil) mixed ?_ ?_ ?_; kernel_rfl; kernel_rfl) | simp -implicitDefEqProofs (maxSteps := 2000000) (disch := first | assumption | omega) [*, ])
        exact ⟨hlt, (), by show a.take (k + 1) = b.take (k + 1); rw [take_succ_nth hlt, take_succ_nth hlb, hI, hn], by (refine Fits.of ?_ ?_; rotate_left; (repeat (first | with_reducible exact Off.refl _ _ | refine Off.upd rfl ?_ | refine Off.updO rfl ?_ | refine Off.upds rfl ?_)); simp [upd_apply, upds_cons]), rfl, rfl⟩
      · have hd : a ≠ b := by rintro rfl; exact hn rfl
        repeat' (first | with_reducible refine br_t ?_ | with_reducible refine br_f ?_ | with_reducible refine br_dec (fun _ => ?_) (fun _ => ?_) | with_reducible refine g_dec (fun _ => ?_) (fun _ => ?_) | with_reducible refine g_ndec (fun _ => ?_) (fun _ => ?_) | with_reducible refine br_not (fun _ => ?_) (fun _ => ?_) | with_reducible refine br_split (fun _ => ?_) (fun _ => ?_) | with_reducible refine g_not (fun _ => ?_) (fun _ => ?_) | with_reducible refine g_split (fun _ => ?_) (fun _ => ?_) | with_reducible refine px_dec (fun _ => ?_) (fun _ => ?_) | with_reducible refine px_ndec (fun _ => ?_) (fun _ => ?_) | with_reducible refine px_split (fun _ => ?_) (fun _ => ?_) | (with_reducible refine aWh_draw (own := false) (id := 6) (.qs [0, 1, 2, 3, 4, 5, 6, 7, 8] .nil) mixed ?_ ?_ ?_; kernel_rfl; kernel_rfl) | simp -implicitDefEqProofs (maxSteps := 2000000) (disch := first | assumption | omega) [*, ])
        all_goals exact EndsE.eq (by simp [hd]) (by simp)
    · have : k = a.length := by omega
      subst this
      have hd : a = b := by rw [List.take_of_length_le (Nat.le_refl _), List.take_of_length_le (by omega)] at hI; exact hI
      repeat' (first | with_reducible refine br_t ?_ | with_reducible refine br_f ?_ | with_reducible refine br_dec (fun _ => ?_) (fun _ => ?_) | with_reducible refine g_dec (fun _ => ?_) (fun _ => ?_) | with_reducible refine g_ndec (fun _ => ?_) (fun _ => ?_) | with_reducible refine br_not (fun _ => ?_) (fun _ => ?_) | with_reducible refine br_split (fun _ => ?_) (fun _ => ?_) | with_reducible refine g_not (fun _ => ?_) (fun _ => ?_) | with_reducible refine g_split (fun _ => ?_) (fun _ => ?_) | with_reducible refine px_dec (fun _ => ?_) (fun _ => ?_) | with_reducible refine px_ndec (fun _ => ?_) (fun _ => ?_) | with_reducible refine px_split (fun _ => ?_) (fun _ => ?_) | (with_reducible refine aWh_draw (own := false) (id := 6) (.qs [0, 1, 2, 3, 4, 5, 6, 7, 8] .nil) mixed ?_ ?_ ?_; kernel_rfl; kernel_rfl) | simp -implicitDefEqProofs (maxSteps := 2000000) (disch := first | assumption | omega) [*, ])
      all_goals exact EndsE.eq (by simp [hd]) (by simp)
  · have hd : a ≠ b := by rintro rfl; exact hl rfl
    have hl' : (a.length : Int) ≠ b.length := by omega
    repeat' (first | with_reducible refine br_t ?_ | with_reducible refine br_f ?_ | with_reducible refine br_dec (fun _ => ?_) (fun _ => ?_) | with_reducible refine g_dec (fun _ => ?_) (fun _ => ?_) | with_reducible refine g_ndec (fun _ => ?_) (fun _ => ?_) | with_reducible refine br_not (fun _ => ?_) (fun _ => ?_) | with_reducible refine br_split (fun _ => ?_) (fun _ => ?_) | with_reducible refine g_not (fun _ => ?_) (fun _ => ?_) | with_reducible refine g_split (fun _ => ?_) (fun _ => ?_) | with_reducible refine px_dec (fun _ => ?_) (fun _ => ?_) | with_reducible refine px_ndec (fun _ => ?_) (fun _ => ?_) | with_reducible refine px_split (fun _ => ?_) (fun _ => ?_) | (with_reducible refine aWh_draw (own := false) (id := 6) (.qs [0, 1, 2, 3, 4, 5, 6, 7, 8] .nil) mixed ?_ ?_ ?_; kernel_rfl; kernel_rfl) | simp -implicitDefEqProofs (maxSteps := 2000000) (disch := first | assumption | omega) [*, ])
    all_goals exact EndsE.eq (by simp [hd]) (by simp)

theorem equalIns_p {a b : List Ins} (ha : a.length ≤ 9223372036854775807) : PureE Try.prog 48 [row a, row b] (.bool (decide (a = b))) := by
  refine .of fun s v => ?_
  refine aCalls_go Try.func48 rfl (by decide) Try.ntmps48 (by simp) false ?_
  have hres : Try.f48.results = #[.tmp 4] := rfl
  by_cases hl : a.length = b.length
  · repeat' (first | with_reducible refine br_t ?_ | with_reducible refine br_f ?_ | with_reducible refine br_dec (fun _ => ?_) (fun _ => ?_) | with_reducible refine g_dec (fun _ => ?_) (fun _ => ?_) | with_reducible refine g_ndec (fun _ => ?_) (fun _ => ?_) | with_reducible refine br_not (fun _ => ?_) (fun _ => ?_) | with_reducible refine br_split (fun _ => ?_) (fun _ => ?_) | with_reducible refine g_not (fun _ => ?_) (fun _ => ?_) | with_reducible refine g_split (fun _ => ?_) (fun _ => ?_) | with_reducible refine px_dec (fun _ => ?_) (fun _ => ?_) | with_reducible refine px_ndec (fun _ => ?_) (fun _ => ?_) | with_reducible refine px_split (fun _ => ?_) (fun _ => ?_) | (with_reducible refine aWh_draw (own := false) (id := 6) (.qs [0, 1, 2, 3, 4, 5, 6, 7, 8] .nil) mixed ?_ ?_ ?_; kernel_rfl; kernel_rfl) | simp -implicitDefEqProofs (maxSteps := 2000000) (disch := first | assumption | omega) [*, ])
    refine aW_for (β := Unit) false a.length (fun k _ => a.take k = b.take k) (fun k _ => [(13, .int .i64 k), (14, .any), (15, .any), (5, .any), (16, .any), (17, .any), (18, .any), (19, .any), (20, .any), (21, .any), (22, .any), (23, .any), (24, .any), (4, .any), (25, .any)]) (fun _ _ => s) (fun _ _ => v) ?_ ?_
    · exact ⟨(), by simp, by (refine Fits.of ?_ (Off.refl _ _); simp [upd_apply, upds_cons]), rfl, rfl⟩
    rintro k _ hk hI
    by_cases hlt : k < a.length
    · have hlb : k < b.length := by omega
      by_cases hn : nth a k = nth b k
      · repeat' (first | with_reducible refine br_t ?_ | with_reducible refine br_f ?_ | with_reducible refine br_dec (fun _ => ?_) (fun _ => ?_) | with_reducible refine g_dec (fun _ => ?_) (fun _ => ?_) | with_reducible refine g_ndec (fun _ => ?_) (fun _ => ?_) | with_reducible refine br_not (fun _ => ?_) (fun _ => ?_) | with_reducible refine br_split (fun _ => ?_) (fun _ => ?_) | with_reducible refine g_not (fun _ => ?_) (fun _ => ?_) | with_reducible refine g_split (fun _ => ?_) (fun _ => ?_) | with_reducible refine px_dec (fun _ => ?_) (fun _ => ?_) | with_reducible refine px_ndec (fun _ => ?_) (fun _ => ?_) | with_reducible refine px_split (fun _ => ?_) (fun _ => ?_) | (with_reducible refine aWh_draw (own := false) (id := 6) (.qs [0, 1, 2, 3, 4, 5, 6, 7, 8] .nil) mixed ?_ ?_ ?_; kernel_rfl; kernel_rfl) | simp -implicitDefEqProofs (maxSteps := 2000000) (disch := first | assumption | omega) [*, ])
        exact ⟨hlt, (), by show a.take (k + 1) = b.take (k + 1); rw [take_succ_nth hlt, take_succ_nth hlb, hI, hn], by (refine Fits.of ?_ ?_; rotate_left; (repeat (first | with_reducible exact Off.refl _ _ | refine Off.upd rfl ?_ | refine Off.updO rfl ?_ | refine Off.upds rfl ?_)); simp [upd_apply, upds_cons]), rfl, rfl⟩
      · have hq := ins_ne hn
        have hd : a ≠ b := by rintro rfl; exact hn rfl
        repeat' (first | with_reducible refine br_t ?_ | with_reducible refine br_f ?_ | with_reducible refine br_dec (fun _ => ?_) (fun _ => ?_) | with_reducible refine g_dec (fun _ => ?_) (fun _ => ?_) | with_reducible refine g_ndec (fun _ => ?_) (fun _ => ?_) | with_reducible refine br_not (fun _ => ?_) (fun _ => ?_) | with_reducible refine br_split (fun _ => ?_) (fun _ => ?_) | with_reducible refine g_not (fun _ => ?_) (fun _ => ?_) | with_reducible refine g_split (fun _ => ?_) (fun _ => ?_) | with_reducible refine px_dec (fun _ => ?_) (fun _ => ?_) | with_reducible refine px_ndec (fun _ => ?_) (fun _ => ?_) | with_reducible refine px_split (fun _ => ?_) (fun _ => ?_) | (with_reducible refine aWh_draw (own := false) (id := 6) (.qs [0, 1, 2, 3, 4, 5, 6, 7, 8] .nil) mixed ?_ ?_ ?_; kernel_rfl; kernel_rfl) | simp -implicitDefEqProofs (maxSteps := 2000000) (disch := first | assumption | omega) [*, ])
        all_goals exact EndsE.eq (by simp [hd]) (by simp)
    · have : k = a.length := by omega
      subst this
      have hd : a = b := by rw [List.take_of_length_le (Nat.le_refl _), List.take_of_length_le (by omega)] at hI; exact hI
      repeat' (first | with_reducible refine br_t ?_ | with_reducible refine br_f ?_ | with_reducible refine br_dec (fun _ => ?_) (fun _ => ?_) | with_reducible refine g_dec (fun _ => ?_) (fun _ => ?_) | with_reducible refine g_ndec (fun _ => ?_) (fun _ => ?_) | with_reducible refine br_not (fun _ => ?_) (fun _ => ?_) | with_reducible refine br_split (fun _ => ?_) (fun _ => ?_) | with_reducible refine g_not (fun _ => ?_) (fun _ => ?_) | with_reducible refine g_split (fun _ => ?_) (fun _ => ?_) | with_reducible refine px_dec (fun _ => ?_) (fun _ => ?_) | with_reducible refine px_ndec (fun _ => ?_) (fun _ => ?_) | with_reducible refine px_split (fun _ => ?_) (fun _ => ?_) | (with_reducible refine aWh_draw (own := false) (id := 6) (.qs [0, 1, 2, 3, 4, 5, 6, 7, 8] .nil) mixed ?_ ?_ ?_; kernel_rfl; kernel_rfl) | simp -implicitDefEqProofs (maxSteps := 2000000) (disch := first | assumption | omega) [*, ])
      all_goals exact EndsE.eq (by simp [hd]) (by simp)
  · have hd : a ≠ b := by rintro rfl; exact hl rfl
    have hl' : (a.length : Int) ≠ b.length := by omega
    repeat' (first | with_reducible refine br_t ?_ | with_reducible refine br_f ?_ | with_reducible refine br_dec (fun _ => ?_) (fun _ => ?_) | with_reducible refine g_dec (fun _ => ?_) (fun _ => ?_) | with_reducible refine g_ndec (fun _ => ?_) (fun _ => ?_) | with_reducible refine br_not (fun _ => ?_) (fun _ => ?_) | with_reducible refine br_split (fun _ => ?_) (fun _ => ?_) | with_reducible refine g_not (fun _ => ?_) (fun _ => ?_) | with_reducible refine g_split (fun _ => ?_) (fun _ => ?_) | with_reducible refine px_dec (fun _ => ?_) (fun _ => ?_) | with_reducible refine px_ndec (fun _ => ?_) (fun _ => ?_) | with_reducible refine px_split (fun _ => ?_) (fun _ => ?_) | (with_reducible refine aWh_draw (own := false) (id := 6) (.qs [0, 1, 2, 3, 4, 5, 6, 7, 8] .nil) mixed ?_ ?_ ?_; kernel_rfl; kernel_rfl) | simp -implicitDefEqProofs (maxSteps := 2000000) (disch := first | assumption | omega) [*, ])
    all_goals exact EndsE.eq (by simp [hd]) (by simp)

theorem rsameL_p {a b : List (List Int)} (ha : a.length ≤ 9223372036854775807) (hr : ∀ k < a.length, (nth a k).length ≤ 9223372036854775807) : PureE Try.prog 52 [row a, row b] (.bool (decide (a = b))) := by
  refine .of fun s v => ?_
  refine aCalls_go Try.func52 rfl (by decide) Try.ntmps52 (by simp) false ?_
  have hres : Try.f52.results = #[.tmp 4] := rfl
  by_cases hl : a.length = b.length
  · repeat' (first | with_reducible refine br_t ?_ | with_reducible refine br_f ?_ | with_reducible refine br_dec (fun _ => ?_) (fun _ => ?_) | with_reducible refine g_dec (fun _ => ?_) (fun _ => ?_) | with_reducible refine g_ndec (fun _ => ?_) (fun _ => ?_) | with_reducible refine br_not (fun _ => ?_) (fun _ => ?_) | with_reducible refine br_split (fun _ => ?_) (fun _ => ?_) | with_reducible refine g_not (fun _ => ?_) (fun _ => ?_) | with_reducible refine g_split (fun _ => ?_) (fun _ => ?_) | with_reducible refine px_dec (fun _ => ?_) (fun _ => ?_) | with_reducible refine px_ndec (fun _ => ?_) (fun _ => ?_) | with_reducible refine px_split (fun _ => ?_) (fun _ => ?_) | (with_reducible refine aWh_draw (own := false) (id := 6) (.qs [0, 1, 2, 3, 4, 5, 6, 7] (.w 8 [] (.qs [9] .nil))) mixed ?_ ?_ ?_; kernel_rfl; kernel_rfl) | with_reducible refine callE (by assumption) ?_ | simp -implicitDefEqProofs (maxSteps := 2000000) (disch := first | assumption | omega) [*, ])
    refine aW_for (β := Unit) false a.length (fun k _ => a.take k = b.take k) (fun k _ => [(5, .int .i64 k), (11, .any), (12, .any), (13, .any), (14, .any), (17, .any), (18, .any), (19, .any), (20, .any), (21, .any), (22, .any), (23, .any), (24, .any), (25, .any), (26, .any), (4, .any), (15, .any), (16, .any)]) (fun _ _ => s) (fun _ _ => v) ?_ ?_
    · exact ⟨(), by simp, by (refine Fits.of ?_ (Off.refl _ _); simp [upd_apply, upds_cons]), rfl, rfl⟩
    rintro k _ hk hI
    by_cases hlt : k < a.length
    · have hlb : k < b.length := by omega
      by_cases hn : nth a k = nth b k
      · have hc := rsameI_p (a := nth b k) (b := nth b k) (by rw [← hn]; exact hr k hlt)
        simp only [decide_true] at hc
        repeat' (first | with_reducible refine br_t ?_ | with_reducible refine br_f ?_ | with_reducible refine br_dec (fun _ => ?_) (fun _ => ?_) | with_reducible refine g_dec (fun _ => ?_) (fun _ => ?_) | with_reducible refine g_ndec (fun _ => ?_) (fun _ => ?_) | with_reducible refine br_not (fun _ => ?_) (fun _ => ?_) | with_reducible refine br_split (fun _ => ?_) (fun _ => ?_) | with_reducible refine g_not (fun _ => ?_) (fun _ => ?_) | with_reducible refine g_split (fun _ => ?_) (fun _ => ?_) | with_reducible refine px_dec (fun _ => ?_) (fun _ => ?_) | with_reducible refine px_ndec (fun _ => ?_) (fun _ => ?_) | with_reducible refine px_split (fun _ => ?_) (fun _ => ?_) | (with_reducible refine aWh_draw (own := false) (id := 6) (.qs [0, 1, 2, 3, 4, 5, 6, 7] (.w 8 [] (.qs [9] .nil))) mixed ?_ ?_ ?_; kernel_rfl; kernel_rfl) | with_reducible refine callE (by assumption) ?_ | simp -implicitDefEqProofs (maxSteps := 2000000) (disch := first | assumption | omega) [*, ])
        exact ⟨hlt, (), by show a.take (k + 1) = b.take (k + 1); rw [take_succ_nth hlt, take_succ_nth hlb, hI, hn], by (refine Fits.of ?_ ?_; rotate_left; (repeat (first | with_reducible exact Off.refl _ _ | refine Off.upd rfl ?_ | refine Off.updO rfl ?_ | refine Off.upds rfl ?_)); simp [upd_apply, upds_cons]), rfl, rfl⟩
      · have hc := rsameI_p (a := nth a k) (b := nth b k) (hr k hlt)
        simp only [hn, decide_false] at hc
        have hd : a ≠ b := by rintro rfl; exact hn rfl
        repeat' (first | with_reducible refine br_t ?_ | with_reducible refine br_f ?_ | with_reducible refine br_dec (fun _ => ?_) (fun _ => ?_) | with_reducible refine g_dec (fun _ => ?_) (fun _ => ?_) | with_reducible refine g_ndec (fun _ => ?_) (fun _ => ?_) | with_reducible refine br_not (fun _ => ?_) (fun _ => ?_) | with_reducible refine br_split (fun _ => ?_) (fun _ => ?_) | with_reducible refine g_not (fun _ => ?_) (fun _ => ?_) | with_reducible refine g_split (fun _ => ?_) (fun _ => ?_) | with_reducible refine px_dec (fun _ => ?_) (fun _ => ?_) | with_reducible refine px_ndec (fun _ => ?_) (fun _ => ?_) | with_reducible refine px_split (fun _ => ?_) (fun _ => ?_) | (with_reducible refine aWh_draw (own := false) (id := 6) (.qs [0, 1, 2, 3, 4, 5, 6, 7] (.w 8 [] (.qs [9] .nil))) mixed ?_ ?_ ?_; kernel_rfl; kernel_rfl) | with_reducible refine callE (by assumption) ?_ | simp -implicitDefEqProofs (maxSteps := 2000000) (disch := first | assumption | omega) [*, ])
        all_goals exact EndsE.eq (by simp [hd]) (by simp)
    · have : k = a.length := by omega
      subst this
      have hd : a = b := by rw [List.take_of_length_le (Nat.le_refl _), List.take_of_length_le (by omega)] at hI; exact hI
      repeat' (first | with_reducible refine br_t ?_ | with_reducible refine br_f ?_ | with_reducible refine br_dec (fun _ => ?_) (fun _ => ?_) | with_reducible refine g_dec (fun _ => ?_) (fun _ => ?_) | with_reducible refine g_ndec (fun _ => ?_) (fun _ => ?_) | with_reducible refine br_not (fun _ => ?_) (fun _ => ?_) | with_reducible refine br_split (fun _ => ?_) (fun _ => ?_) | with_reducible refine g_not (fun _ => ?_) (fun _ => ?_) | with_reducible refine g_split (fun _ => ?_) (fun _ => ?_) | with_reducible refine px_dec (fun _ => ?_) (fun _ => ?_) | with_reducible refine px_ndec (fun _ => ?_) (fun _ => ?_) | with_reducible refine px_split (fun _ => ?_) (fun _ => ?_) | (with_reducible refine aWh_draw (own := false) (id := 6) (.qs [0, 1, 2, 3, 4, 5, 6, 7] (.w 8 [] (.qs [9] .nil))) mixed ?_ ?_ ?_; kernel_rfl; kernel_rfl) | with_reducible refine callE (by assumption) ?_ | simp -implicitDefEqProofs (maxSteps := 2000000) (disch := first | assumption | omega) [*, ])
      all_goals exact EndsE.eq (by simp [hd]) (by simp)
  · have hd : a ≠ b := by rintro rfl; exact hl rfl
    have hl' : (a.length : Int) ≠ b.length := by omega
    repeat' (first | with_reducible refine br_t ?_ | with_reducible refine br_f ?_ | with_reducible refine br_dec (fun _ => ?_) (fun _ => ?_) | with_reducible refine g_dec (fun _ => ?_) (fun _ => ?_) | with_reducible refine g_ndec (fun _ => ?_) (fun _ => ?_) | with_reducible refine br_not (fun _ => ?_) (fun _ => ?_) | with_reducible refine br_split (fun _ => ?_) (fun _ => ?_) | with_reducible refine g_not (fun _ => ?_) (fun _ => ?_) | with_reducible refine g_split (fun _ => ?_) (fun _ => ?_) | with_reducible refine px_dec (fun _ => ?_) (fun _ => ?_) | with_reducible refine px_ndec (fun _ => ?_) (fun _ => ?_) | with_reducible refine px_split (fun _ => ?_) (fun _ => ?_) | (with_reducible refine aWh_draw (own := false) (id := 6) (.qs [0, 1, 2, 3, 4, 5, 6, 7] (.w 8 [] (.qs [9] .nil))) mixed ?_ ?_ ?_; kernel_rfl; kernel_rfl) | with_reducible refine callE (by assumption) ?_ | simp -implicitDefEqProofs (maxSteps := 2000000) (disch := first | assumption | omega) [*, ])
    all_goals exact EndsE.eq (by simp [hd]) (by simp)
end Go.Hb
end

section
namespace Go.Hb
open Go Go.Proofs Go.RowKit
set_option maxRecDepth 100000
set_option maxHeartbeats 800000
attribute [-simp] aC aL aOper aThen aInBlock aIf aPlan aAppend aLen aIndexAddr aSlice aCells aBounds lBr aq initT aev aAppendOwn aAppendNil aAppendNew aAppendRef LV.cells LV.cellsOk getElem?_pos getElem?_neg

theorem eqfL_p {a b : List (List Int)} (ha : a.length ≤ 9223372036854775807) (hr : ∀ k < a.length, (nth a k).length ≤ 9223372036854775807) :
    PureE Try.prog 50 [row a, row b, .fn (.func 49) [] []] (.bool (decide (a = b))) := by
  refine .of fun s v => ?_
  refine aCalls_go Try.func50 rfl (by decide) Try.ntmps50 (by simp) false ?_
  have hres : Try.f50.results = #[.tmp 6] := rfl
  by_cases hl : a.length = b.length
  · repeat' (first | with_reducible refine br_t ?_ | with_reducible refine br_f ?_ | with_reducible refine br_dec (fun _ => ?_) (fun _ => ?_) | with_reducible refine g_dec (fun _ => ?_) (fun _ => ?_) | with_reducible refine g_ndec (fun _ => ?_) (fun _ => ?_) | with_reducible refine br_not (fun _ => ?_) (fun _ => ?_) | with_reducible refine br_split (fun _ => ?_) (fun _ => ?_) | with_reducible refine g_not (fun _ => ?_) (fun _ => ?_) | with_reducible refine g_split (fun _ => ?_) (fun _ => ?_) | with_reducible refine px_dec (fun _ => ?_) (fun _ => ?_) | with_reducible refine px_ndec (fun _ => ?_) (fun _ => ?_) | with_reducible refine px_split (fun _ => ?_) (fun _ => ?_) | simp -implicitDefEqProofs (maxSteps := 2000000) (disch := first | assumption | omega) [*, ])
    refine aW_for (β := Unit) false a.length (fun k _ => a.take k = b.take k) (fun k _ => [(17, .int .i64 k), (18, .any), (19, .any), (20, .any), (21, .any), (7, .any), (8, .any), (22, .any), (23, .any), (24, .any), (25, .any), (9, .any), (26, .any), (27, .any), (28, .any), (29, .any), (30, .any), (6, .any), (31, .any)]) (fun _ _ => s) (fun _ _ => v) ?_ ?_
    · exact ⟨(), by simp, by (refine Fits.of ?_ (Off.refl _ _); simp [upd_apply, upds_cons]), rfl, rfl⟩
    rintro k _ hk hI
    by_cases hlt : k < a.length
    · have hlb : k < b.length := by omega
      have hc := equalI_p (a := nth a k) (b := nth b k) (hr k hlt)
      by_cases hn : nth a k = nth b k
      · simp only [hn, decide_true] at hc
        repeat' (first | with_reducible refine br_t ?_ | with_reducible refine br_f ?_ | with_reducible refine br_dec (fun _ => ?_) (fun _ => ?_) | with_reducible refine g_dec (fun _ => ?_) (fun _ => ?_) | with_reducible refine g_ndec (fun _ => ?_) (fun _ => ?_) | with_reducible refine br_not (fun _ => ?_) (fun _ => ?_) | with_reducible refine br_split (fun _ => ?_) (fun _ => ?_) | with_reducible refine g_not (fun _ => ?_) (fun _ => ?_) | with_reducible refine g_split (fun _ => ?_) (fun _ => ?_) | with_reducible refine px_dec (fun _ => ?_) (fun _ => ?_) | with_reducible refine px_ndec (fun _ => ?_) (fun _ => ?_) | with_reducible refine px_split (fun _ => ?_) (fun _ => ?_) | with_reducible refine callE hc ?_ | simp -implicitDefEqProofs (maxSteps := 2000000) (disch := first | assumption | omega) [*, ])
        exact ⟨hlt, (), by show a.take (k + 1) = b.take (k + 1); rw [take_succ_nth hlt, take_succ_nth hlb, hI, hn], by (refine Fits.of ?_ ?_; rotate_left; (repeat (first | with_reducible exact Off.refl _ _ | refine Off.upd rfl ?_ | refine Off.updO rfl ?_ | refine Off.upds rfl ?_)); simp [upd_apply, upds_cons]), rfl, rfl⟩
      · have hd : a ≠ b := by rintro rfl; exact hn rfl
        simp only [hn, decide_false] at hc
        repeat' (first | with_reducible refine br_t ?_ | with_reducible refine br_f ?_ | with_reducible refine br_dec (fun _ => ?_) (fun _ => ?_) | with_reducible refine g_dec (fun _ => ?_) (fun _ => ?_) | with_reducible refine g_ndec (fun _ => ?_) (fun _ => ?_) | with_reducible refine br_not (fun _ => ?_) (fun _ => ?_) | with_reducible refine br_split (fun _ => ?_) (fun _ => ?_) | with_reducible refine g_not (fun _ => ?_) (fun _ => ?_) | with_reducible refine g_split (fun _ => ?_) (fun _ => ?_) | with_reducible refine px_dec (fun _ => ?_) (fun _ => ?_) | with_reducible refine px_ndec (fun _ => ?_) (fun _ => ?_) | with_reducible refine px_split (fun _ => ?_) (fun _ => ?_) | with_reducible refine callE hc ?_ | simp -implicitDefEqProofs (maxSteps := 2000000) (disch := first | assumption | omega) [*, ])
        exact EndsE.eq (by simp [hd]) (by simp)
    · have : k = a.length := by omega
      subst this
      have hd : a = b := by rw [List.take_of_length_le (Nat.le_refl _), List.take_of_length_le (by omega)] at hI; exact hI
      repeat' (first | with_reducible refine br_t ?_ | with_reducible refine br_f ?_ | with_reducible refine br_dec (fun _ => ?_) (fun _ => ?_) | with_reducible refine g_dec (fun _ => ?_) (fun _ => ?_) | with_reducible refine g_ndec (fun _ => ?_) (fun _ => ?_) | with_reducible refine br_not (fun _ => ?_) (fun _ => ?_) | with_reducible refine br_split (fun _ => ?_) (fun _ => ?_) | with_reducible refine g_not (fun _ => ?_) (fun _ => ?_) | with_reducible refine g_split (fun _ => ?_) (fun _ => ?_) | with_reducible refine px_dec (fun _ => ?_) (fun _ => ?_) | with_reducible refine px_ndec (fun _ => ?_) (fun _ => ?_) | with_reducible refine px_split (fun _ => ?_) (fun _ => ?_) | simp -implicitDefEqProofs (maxSteps := 2000000) (disch := first | assumption | omega) [*, ])
      exact EndsE.eq (by simp [hd]) (by simp)
  · have hd : a ≠ b := by rintro rfl; exact hl rfl
    have hl' : (a.length : Int) ≠ b.length := by omega
    repeat' (first | with_reducible refine br_t ?_ | with_reducible refine br_f ?_ | with_reducible refine br_dec (fun _ => ?_) (fun _ => ?_) | with_reducible refine g_dec (fun _ => ?_) (fun _ => ?_) | with_reducible refine g_ndec (fun _ => ?_) (fun _ => ?_) | with_reducible refine br_not (fun _ => ?_) (fun _ => ?_) | with_reducible refine br_split (fun _ => ?_) (fun _ => ?_) | with_reducible refine g_not (fun _ => ?_) (fun _ => ?_) | with_reducible refine g_split (fun _ => ?_) (fun _ => ?_) | with_reducible refine px_dec (fun _ => ?_) (fun _ => ?_) | with_reducible refine px_ndec (fun _ => ?_) (fun _ => ?_) | with_reducible refine px_split (fun _ => ?_) (fun _ => ?_) | simp -implicitDefEqProofs (maxSteps := 2000000) (disch := first | assumption | omega) [*, ])
    exact EndsE.eq (by simp [hd]) (by simp)

theorem same1c_p {l l' : Int} {c c' : List Ins} (hc : c.length ≤ 9223372036854775807) : PureE Try.prog 47 [.agg [.int .i64 l, row c], .agg [.int .i64 l', row c']] (.bool (decide ((⟨l, c⟩ : Fn_) = ⟨l', c'⟩))) := by
  refine .of fun s v => ?_
  have he := equalIns_p (a := c) (b := c') hc
  refine aCalls_go Try.func47 rfl (by decide) Try.ntmps47 (by simp) false ?_
  have hres : Try.f47.results = #[.tmp 4] := rfl
  repeat' (first | with_reducible refine br_t ?_ | with_reducible refine br_f ?_ | with_reducible refine br_dec (fun _ => ?_) (fun _ => ?_) | with_reducible refine g_dec (fun _ => ?_) (fun _ => ?_) | with_reducible refine g_ndec (fun _ => ?_) (fun _ => ?_) | with_reducible refine br_not (fun _ => ?_) (fun _ => ?_) | with_reducible refine br_split (fun _ => ?_) (fun _ => ?_) | with_reducible refine g_not (fun _ => ?_) (fun _ => ?_) | with_reducible refine g_split (fun _ => ?_) (fun _ => ?_) | with_reducible refine px_dec (fun _ => ?_) (fun _ => ?_) | with_reducible refine px_ndec (fun _ => ?_) (fun _ => ?_) | with_reducible refine px_split (fun _ => ?_) (fun _ => ?_) | with_reducible refine callE he ?_ | simp -implicitDefEqProofs (maxSteps := 2000000) (disch := first | assumption | omega) [*, ])
  all_goals (first | (exfalso; omega) | ((try subst_vars); (first | refine EndsE.eq ?_ (by simp) | refine EndsE.eqat ?_ (by simp)); (first | with_reducible rfl | (simp [*, Fn_.mk.injEq]; done) | (simp [*, Fn_.mk.injEq]; omega) | (simp only [LV.bool.injEq]; rw [Bool.eq_iff_iff]; simp [*, Fn_.mk.injEq]; done) | (simp only [LV.bool.injEq]; rw [Bool.eq_iff_iff]; simp [*, Fn_.mk.injEq]; omega) | (simp only [LV.bool.injEq]; rw [Bool.eq_iff_iff]; simp (disch := omega) only [if_pos, if_neg, if_true, if_false, *, Fn_.mk.injEq]; simp <;> omega) | (simp only [LV.bool.injEq, Bool.and_eq_false_imp, Bool.and_eq_true, decide_eq_true_eq]; intros; exfalso; omega) | (simp only [LV.bool.injEq, Bool.and_eq_false_imp, Bool.and_eq_true, decide_eq_true_eq]; intros; simp_all; done))))

theorem eqfF_p {a b : List Fn_} (ha : a.length ≤ 9223372036854775807) (hr : ∀ k < a.length, (nth a k).code.length ≤ 9223372036854775807) :
    PureE Try.prog 46 [row a, row b, .fn (.func 47) [] []] (.bool (decide (a = b))) := by
  refine .of fun s v => ?_
  refine aCalls_go Try.func46 rfl (by decide) Try.ntmps46 (by simp) false ?_
  have hres : Try.f46.results = #[.tmp 6] := rfl
  by_cases hl : a.length = b.length
  · repeat' (first | with_reducible refine br_t ?_ | with_reducible refine br_f ?_ | with_reducible refine br_dec (fun _ => ?_) (fun _ => ?_) | with_reducible refine g_dec (fun _ => ?_) (fun _ => ?_) | with_reducible refine g_ndec (fun _ => ?_) (fun _ => ?_) | with_reducible refine br_not (fun _ => ?_) (fun _ => ?_) | with_reducible refine br_split (fun _ => ?_) (fun _ => ?_) | with_reducible refine g_not (fun _ => ?_) (fun _ => ?_) | with_reducible refine g_split (fun _ => ?_) (fun _ => ?_) | with_reducible refine px_dec (fun _ => ?_) (fun _ => ?_) | with_reducible refine px_ndec (fun _ => ?_) (fun _ => ?_) | with_reducible refine px_split (fun _ => ?_) (fun _ => ?_) | simp -implicitDefEqProofs (maxSteps := 2000000) (disch := first | assumption | omega) [*, ])
    refine aW_for (β := List AObj) false a.length (fun k _ => a.take k = b.take k) (fun k _ => [(17, .int .i64 k), (18, .any), (19, .any), (20, .any), (21, .any), (8, .any), (7, .any), (22, .any), (23, .any), (24, .any), (25, .any), (9, .any), (26, .any), (27, .any), (28, .any), (29, .any), (30, .any), (6, .any), (31, .any)]) (fun _ J => s ++ J) (fun _ _ => v) ?_ ?_
    · exact ⟨[], by simp, by (refine Fits.of ?_ (Off.refl _ _); simp [upd_apply, upds_cons]), by simp, rfl⟩
    rintro k J hk hI
    by_cases hlt : k < a.length
    · have hlb : k < b.length := by omega
      have hc : PureE Try.prog 47 [.agg [.int .i64 (nth a k).locals, row (nth a k).code], .agg [.int .i64 (nth b k).locals, row (nth b k).code]] (.bool (decide (nth a k = nth b k))) := same1c_p (hr k hlt)
      by_cases hn : nth a k = nth b k
      · simp only [hn, decide_true] at hc
        repeat' (first | with_reducible refine br_t ?_ | with_reducible refine br_f ?_ | with_reducible refine br_dec (fun _ => ?_) (fun _ => ?_) | with_reducible refine g_dec (fun _ => ?_) (fun _ => ?_) | with_reducible refine g_ndec (fun _ => ?_) (fun _ => ?_) | with_reducible refine br_not (fun _ => ?_) (fun _ => ?_) | with_reducible refine br_split (fun _ => ?_) (fun _ => ?_) | with_reducible refine g_not (fun _ => ?_) (fun _ => ?_) | with_reducible refine g_split (fun _ => ?_) (fun _ => ?_) | with_reducible refine px_dec (fun _ => ?_) (fun _ => ?_) | with_reducible refine px_ndec (fun _ => ?_) (fun _ => ?_) | with_reducible refine px_split (fun _ => ?_) (fun _ => ?_) | with_reducible refine callE hc ?_ | simp -implicitDefEqProofs (maxSteps := 2000000) (disch := first | assumption | omega) [*, ])
        exact ⟨hlt, _, by show a.take (k + 1) = b.take (k + 1); rw [take_succ_nth hlt, take_succ_nth hlb, hI, hn], by (refine Fits.of ?_ ?_; rotate_left; (repeat (first | with_reducible exact Off.refl _ _ | refine Off.upd rfl ?_ | refine Off.updO rfl ?_ | refine Off.upds rfl ?_)); simp [upd_apply, upds_cons]), rfl, rfl⟩
      · have hd : a ≠ b := by rintro rfl; exact hn rfl
        simp only [hn, decide_false] at hc
        repeat' (first | with_reducible refine br_t ?_ | with_reducible refine br_f ?_ | with_reducible refine br_dec (fun _ => ?_) (fun _ => ?_) | with_reducible refine g_dec (fun _ => ?_) (fun _ => ?_) | with_reducible refine g_ndec (fun _ => ?_) (fun _ => ?_) | with_reducible refine br_not (fun _ => ?_) (fun _ => ?_) | with_reducible refine br_split (fun _ => ?_) (fun _ => ?_) | with_reducible refine g_not (fun _ => ?_) (fun _ => ?_) | with_reducible refine g_split (fun _ => ?_) (fun _ => ?_) | with_reducible refine px_dec (fun _ => ?_) (fun _ => ?_) | with_reducible refine px_ndec (fun _ => ?_) (fun _ => ?_) | with_reducible refine px_split (fun _ => ?_) (fun _ => ?_) | with_reducible refine callE hc ?_ | simp -implicitDefEqProofs (maxSteps := 2000000) (disch := first | assumption | omega) [*, ])
        exact EndsE.eqat (by simp [hd]) (by simp)
    · have : k = a.length := by omega
      subst this
      have hd : a = b := by rw [List.take_of_length_le (Nat.le_refl _), List.take_of_length_le (by omega)] at hI; exact hI
      repeat' (first | with_reducible refine br_t ?_ | with_reducible refine br_f ?_ | with_reducible refine br_dec (fun _ => ?_) (fun _ => ?_) | with_reducible refine g_dec (fun _ => ?_) (fun _ => ?_) | with_reducible refine g_ndec (fun _ => ?_) (fun _ => ?_) | with_reducible refine br_not (fun _ => ?_) (fun _ => ?_) | with_reducible refine br_split (fun _ => ?_) (fun _ => ?_) | with_reducible refine g_not (fun _ => ?_) (fun _ => ?_) | with_reducible refine g_split (fun _ => ?_) (fun _ => ?_) | with_reducible refine px_dec (fun _ => ?_) (fun _ => ?_) | with_reducible refine px_ndec (fun _ => ?_) (fun _ => ?_) | with_reducible refine px_split (fun _ => ?_) (fun _ => ?_) | simp -implicitDefEqProofs (maxSteps := 2000000) (disch := first | assumption | omega) [*, ])
      exact EndsE.eqat (by simp [hd]) (by simp)
  · have hd : a ≠ b := by rintro rfl; exact hl rfl
    have hl' : (a.length : Int) ≠ b.length := by omega
    repeat' (first | with_reducible refine br_t ?_ | with_reducible refine br_f ?_ | with_reducible refine br_dec (fun _ => ?_) (fun _ => ?_) | with_reducible refine g_dec (fun _ => ?_) (fun _ => ?_) | with_reducible refine g_ndec (fun _ => ?_) (fun _ => ?_) | with_reducible refine br_not (fun _ => ?_) (fun _ => ?_) | with_reducible refine br_split (fun _ => ?_) (fun _ => ?_) | with_reducible refine g_not (fun _ => ?_) (fun _ => ?_) | with_reducible refine g_split (fun _ => ?_) (fun _ => ?_) | with_reducible refine px_dec (fun _ => ?_) (fun _ => ?_) | with_reducible refine px_ndec (fun _ => ?_) (fun _ => ?_) | with_reducible refine px_split (fun _ => ?_) (fun _ => ?_) | simp -implicitDefEqProofs (maxSteps := 2000000) (disch := first | assumption | omega) [*, ])
    exact EndsE.eq (by simp [hd]) (by simp)

instance : DecidableEq Prog := fun a b => decidable_of_iff (a.funcs = b.funcs ∧ a.mutexes = b.mutexes ∧ a.conds = b.conds ∧ a.semas = b.semas ∧ a.chans = b.chans ∧ a.choices = b.choices ∧ a.threads = b.threads)
  ⟨fun ⟨h1, h2, h3, h4, h5, h6, h7⟩ => by cases a; cases b; simp_all, fun h => by subst h; exact ⟨rfl, rfl, rfl, rfl, rfl, rfl, rfl⟩⟩
theorem csame_p {fs fs' : List Fn_} {mu th mu' th' : Int} {co se ch co' se' ch' : List Int} {cho cho' : List (List Int)} (hp : OkProg ⟨fs, mu, co, se, ch, cho, th⟩) :
    PureE Try.prog 17 [.agg [row fs, .int .i64 mu, row co, row se, row ch, row cho, .int .i64 th], .agg [row fs', .int .i64 mu', row co', row se', row ch', row cho', .int .i64 th']] (.bool (decide ((⟨fs, mu, co, se, ch, cho, th⟩ : Prog) = ⟨fs', mu', co', se', ch', cho', th'⟩))) := by
  obtain ⟨⟨h1, k1⟩, h2, ⟨h3, k3⟩, ⟨h4, k4⟩, ⟨h5, k5⟩, ⟨h6, k6⟩, h7⟩ := hp
  simp only at *
  refine .of fun s v => ?_
  have e1 := eqfF_p (a := fs) (b := fs') (by omega) (fun k hk => by have := (h1 (nth fs k) (by rw [nth_eq hk]; exact List.getElem_mem hk)).2.2; omega)
  have e2 := equalI_p (a := co) (b := co') (by omega)
  have e3 := equalI_p (a := se) (b := se') (by omega)
  have e4 := equalI_p (a := ch) (b := ch') (by omega)
  have e5 := eqfL_p (a := cho) (b := cho') (by omega) (fun k hk => by have := (h6 (nth cho k) (by rw [nth_eq hk]; exact List.getElem_mem hk)).2; omega)
  clear h1 h2 h3 h4 h5 h6 h7 k1 k3 k4 k5 k6
  refine aCalls_go Try.func17 rfl (by decide) Try.ntmps17 (by simp) false ?_
  have hres : Try.f17.results = #[.tmp 4] := rfl
  repeat' (first | with_reducible refine br_t ?_ | with_reducible refine br_f ?_ | with_reducible refine br_dec (fun _ => ?_) (fun _ => ?_) | with_reducible refine g_dec (fun _ => ?_) (fun _ => ?_) | with_reducible refine g_ndec (fun _ => ?_) (fun _ => ?_) | with_reducible refine br_not (fun _ => ?_) (fun _ => ?_) | with_reducible refine br_split (fun _ => ?_) (fun _ => ?_) | with_reducible refine g_not (fun _ => ?_) (fun _ => ?_) | with_reducible refine g_split (fun _ => ?_) (fun _ => ?_) | with_reducible refine px_dec (fun _ => ?_) (fun _ => ?_) | with_reducible refine px_ndec (fun _ => ?_) (fun _ => ?_) | with_reducible refine px_split (fun _ => ?_) (fun _ => ?_) | with_reducible refine callE e1 ?_ | with_reducible refine callE e2 ?_ | with_reducible refine callE e3 ?_ | with_reducible refine callE e4 ?_ | with_reducible refine callE e5 ?_ | simp -implicitDefEqProofs (maxSteps := 2000000) (disch := first | assumption | omega) [*, ])
  all_goals (first | (exfalso; omega) | ((try subst_vars); (first | refine EndsE.eq ?_ (by simp) | refine EndsE.eqat ?_ (by simp)); (first | with_reducible rfl | (simp [*, Prog.mk.injEq]; done) | (simp [*, Prog.mk.injEq]; omega) | (simp only [LV.bool.injEq]; rw [Bool.eq_iff_iff]; simp [*, Prog.mk.injEq]; done) | (simp only [LV.bool.injEq]; rw [Bool.eq_iff_iff]; simp [*, Prog.mk.injEq]; omega) | (simp only [LV.bool.injEq]; rw [Bool.eq_iff_iff]; simp (disch := omega) only [if_pos, if_neg, if_true, if_false, *, Prog.mk.injEq]; simp <;> omega) | (simp only [LV.bool.injEq, Bool.and_eq_false_imp, Bool.and_eq_true, decide_eq_true_eq]; intros; exfalso; omega) | (simp only [LV.bool.injEq, Bool.and_eq_false_imp, Bool.and_eq_true, decide_eq_true_eq]; intros; simp_all; done))))

set_option maxHeartbeats 8000000 in
theorem rsame_p {fs fs' : List Fn_} {mu th mu' th' : Int} {co se ch co' se' ch' : List Int} {cho cho' : List (List Int)} (hp : OkProg ⟨fs, mu, co, se, ch, cho, th⟩) :
    PureE Try.prog 18 [.agg [row fs, .int .i64 mu, row co, row se, row ch, row cho, .int .i64 th], .agg [row fs', .int .i64 mu', row co', row se', row ch', row cho', .int .i64 th']] (.bool (decide ((⟨fs, mu, co, se, ch, cho, th⟩ : Prog) = ⟨fs', mu', co', se', ch', cho', th'⟩))) := by
  obtain ⟨⟨h1, k1⟩, h2, ⟨h3, k3⟩, ⟨h4, k4⟩, ⟨h5, k5⟩, ⟨h6, k6⟩, h7⟩ := hp
  simp only at *
  refine .of fun s v => ?_
  have e2 := rsameI_p (a := co) (b := co') (by omega)
  have e3 := rsameI_p (a := se) (b := se') (by omega)
  have e4 := rsameI_p (a := ch) (b := ch') (by omega)
  have e5 := rsameL_p (a := cho) (b := cho') (by omega) (fun k hk => by have := (h6 (nth cho k) (by rw [nth_eq hk]; exact List.getElem_mem hk)).2; omega)
  have hr : ∀ k < fs.length, (nth fs k).code.length ≤ 9223372036854775807 := fun k hk => by have := (h1 (nth fs k) (by rw [nth_eq hk]; exact List.getElem_mem hk)).2.2; omega
  clear h1 h2 h3 h4 h5 h6 h7 k3 k4 k5 k6
  by_cases hl : fs.length = fs'.length
  · refine aCalls_go Try.func18 rfl (by decide) Try.ntmps18 (by simp) false ?_
    have hres : Try.f18.results = #[.tmp 4] := rfl
    repeat' (first | with_reducible refine br_t ?_ | with_reducible refine br_f ?_ | with_reducible refine br_dec (fun _ => ?_) (fun _ => ?_) | with_reducible refine g_dec (fun _ => ?_) (fun _ => ?_) | with_reducible refine g_ndec (fun _ => ?_) (fun _ => ?_) | with_reducible refine br_not (fun _ => ?_) (fun _ => ?_) | with_reducible refine br_split (fun _ => ?_) (fun _ => ?_) | with_reducible refine g_not (fun _ => ?_) (fun _ => ?_) | with_reducible refine g_split (fun _ => ?_) (fun _ => ?_) | with_reducible refine px_dec (fun _ => ?_) (fun _ => ?_) | with_reducible refine px_ndec (fun _ => ?_) (fun _ => ?_) | with_reducible refine px_split (fun _ => ?_) (fun _ => ?_) | (with_reducible refine aWh_draw (own := false) (id := 13) (.qs [0, 1, 2, 3, 4, 5, 6, 7, 8, 9, 10] .nil) mixed ?_ ?_ ?_; kernel_rfl; kernel_rfl) | simp -implicitDefEqProofs (maxSteps := 2000000) (disch := first | assumption | omega) [*, ])
    refine aW_for (β := List AObj) false fs.length (fun k _ => fs.take k = fs'.take k) (fun k _ => [(5, .int .i64 k), (16, .any), (17, .any), (18, .any), (19, .any), (20, .any), (23, .any), (24, .any), (25, .any), (26, .any), (27, .any), (6, .any), (28, .any), (29, .any), (30, .any), (31, .any), (32, .any), (7, .any), (33, .any), (34, .any), (35, .any), (36, .any), (37, .any), (38, .any), (39, .any), (40, .any), (41, .any), (42, .any), (43, .any), (44, .any), (45, .any), (46, .any), (4, .any), (8, .any), (47, .any), (48, .any), (49, .any), (50, .any), (51, .any), (54, .any), (55, .any), (56, .any), (57, .any), (58, .any), (59, .any), (60, .any), (61, .any), (62, .any), (63, .any), (64, .any), (52, .any), (53, .any), (21, .any), (22, .any)]) (fun _ J => s ++ (.cells [row fs, .int .i64 mu, row co, row se, row ch, row cho, .int .i64 th] :: .cells [row fs', .int .i64 mu', row co', row se', row ch', row cho', .int .i64 th'] :: J)) (fun _ _ => v) ?_ ?_
    · exact ⟨[], by simp, by (refine Fits.of ?_ (Off.refl _ _); simp [upd_apply, upds_cons]), by simp, rfl⟩
    rintro k J hk hI
    by_cases hlt : k < fs.length
    · have hlb : k < fs'.length := by omega
      have hrk := hr k hlt
      by_cases hn : nth fs k = nth fs' k
      · rw [hn] at hrk
        repeat' (first | with_reducible refine br_t ?_ | with_reducible refine br_f ?_ | with_reducible refine br_dec (fun _ => ?_) (fun _ => ?_) | with_reducible refine g_dec (fun _ => ?_) (fun _ => ?_) | with_reducible refine g_ndec (fun _ => ?_) (fun _ => ?_) | with_reducible refine br_not (fun _ => ?_) (fun _ => ?_) | with_reducible refine br_split (fun _ => ?_) (fun _ => ?_) | with_reducible refine g_not (fun _ => ?_) (fun _ => ?_) | with_reducible refine g_split (fun _ => ?_) (fun _ => ?_) | with_reducible refine px_dec (fun _ => ?_) (fun _ => ?_) | with_reducible refine px_ndec (fun _ => ?_) (fun _ => ?_) | with_reducible refine px_split (fun _ => ?_) (fun _ => ?_) | (with_reducible refine aWh_draw (own := false) (id := 13) (.qs [0, 1, 2, 3, 4, 5, 6, 7, 8, 9, 10] .nil) mixed ?_ ?_ ?_; kernel_rfl; kernel_rfl) | simp -implicitDefEqProofs (maxSteps := 2000000) (disch := first | assumption | omega) [*, ])
        refine aWl_for (β := Unit) false (nth fs' k).code.length (fun _ _ => True) (fun j _ => [(8, .int .i64 j), (47, .any), (48, .any), (49, .any), (50, .any), (51, .any), (54, .any), (55, .any), (56, .any), (57, .any), (58, .any), (59, .any), (60, .any), (61, .any), (62, .any), (63, .any), (64, .any), (4, .any), (52, .any), (53, .any)]) (fun _ _ => s ++ (.cells [row fs, .int .i64 mu, row co, row se, row ch, row cho, .int .i64 th] :: .cells [row fs', .int .i64 mu', row co', row se', row ch', row cho', .int .i64 th'] :: (J ++ [.cells [.int .i64 (nth fs' k).locals, row (nth fs' k).code], .cells [.int .i64 (nth fs' k).locals, row (nth fs' k).code]]))) (fun _ _ => v) ?_ ?_
        · exact ⟨(), trivial, by (refine Fits.of ?_ (Off.refl _ _); simp [upd_apply, upds_cons]), by simp, rfl⟩
        rintro j _ hj _
        by_cases hjl : j < (nth fs' k).code.length
        · repeat' (first | with_reducible refine br_t ?_ | with_reducible refine br_f ?_ | with_reducible refine br_dec (fun _ => ?_) (fun _ => ?_) | with_reducible refine g_dec (fun _ => ?_) (fun _ => ?_) | with_reducible refine g_ndec (fun _ => ?_) (fun _ => ?_) | with_reducible refine br_not (fun _ => ?_) (fun _ => ?_) | with_reducible refine br_split (fun _ => ?_) (fun _ => ?_) | with_reducible refine g_not (fun _ => ?_) (fun _ => ?_) | with_reducible refine g_split (fun _ => ?_) (fun _ => ?_) | with_reducible refine px_dec (fun _ => ?_) (fun _ => ?_) | with_reducible refine px_ndec (fun _ => ?_) (fun _ => ?_) | with_reducible refine px_split (fun _ => ?_) (fun _ => ?_) | (with_reducible refine aWh_draw (own := false) (id := 13) (.qs [0, 1, 2, 3, 4, 5, 6, 7, 8, 9, 10] .nil) mixed ?_ ?_ ?_; kernel_rfl; kernel_rfl) | simp -implicitDefEqProofs (maxSteps := 2000000) (disch := first | assumption | omega) [*, ])
          exact ⟨hjl, (), trivial, by (refine Fits.of ?_ ?_; rotate_left; (repeat (first | with_reducible exact Off.refl _ _ | refine Off.upd rfl ?_ | refine Off.updO rfl ?_ | refine Off.upds rfl ?_)); simp [upd_apply, upds_cons]), rfl, rfl⟩
        · have : j = (nth fs' k).code.length := by omega
          subst this
          repeat' (first | with_reducible refine br_t ?_ | with_reducible refine br_f ?_ | with_reducible refine br_dec (fun _ => ?_) (fun _ => ?_) | with_reducible refine g_dec (fun _ => ?_) (fun _ => ?_) | with_reducible refine g_ndec (fun _ => ?_) (fun _ => ?_) | with_reducible refine br_not (fun _ => ?_) (fun _ => ?_) | with_reducible refine br_split (fun _ => ?_) (fun _ => ?_) | with_reducible refine g_not (fun _ => ?_) (fun _ => ?_) | with_reducible refine g_split (fun _ => ?_) (fun _ => ?_) | with_reducible refine px_dec (fun _ => ?_) (fun _ => ?_) | with_reducible refine px_ndec (fun _ => ?_) (fun _ => ?_) | with_reducible refine px_split (fun _ => ?_) (fun _ => ?_) | (with_reducible refine aWh_draw (own := false) (id := 13) (.qs [0, 1, 2, 3, 4, 5, 6, 7, 8, 9, 10] .nil) mixed ?_ ?_ ?_; kernel_rfl; kernel_rfl) | simp -implicitDefEqProofs (maxSteps := 2000000) (disch := first | assumption | omega) [*, ])
          exact ⟨hlt, _, by show fs.take (k + 1) = fs'.take (k + 1); rw [take_succ_nth hlt, take_succ_nth hlb, hI, hn], by (refine Fits.of ?_ ?_; rotate_left; (repeat (first | with_reducible exact Off.refl _ _ | refine Off.upd rfl ?_ | refine Off.updO rfl ?_ | refine Off.upds rfl ?_)); simp [upd_apply, upds_cons]), rfl, rfl⟩
      · have hd : fs ≠ fs' := by rintro rfl; exact hn rfl
        by_cases ha : (nth fs k).locals = (nth fs' k).locals
        · by_cases hb : (nth fs k).code.length = (nth fs' k).code.length
          · repeat' (first | with_reducible refine br_t ?_ | with_reducible refine br_f ?_ | with_reducible refine br_dec (fun _ => ?_) (fun _ => ?_) | with_reducible refine g_dec (fun _ => ?_) (fun _ => ?_) | with_reducible refine g_ndec (fun _ => ?_) (fun _ => ?_) | with_reducible refine br_not (fun _ => ?_) (fun _ => ?_) | with_reducible refine br_split (fun _ => ?_) (fun _ => ?_) | with_reducible refine g_not (fun _ => ?_) (fun _ => ?_) | with_reducible refine g_split (fun _ => ?_) (fun _ => ?_) | with_reducible refine px_dec (fun _ => ?_) (fun _ => ?_) | with_reducible refine px_ndec (fun _ => ?_) (fun _ => ?_) | with_reducible refine px_split (fun _ => ?_) (fun _ => ?_) | (with_reducible refine aWh_draw (own := false) (id := 13) (.qs [0, 1, 2, 3, 4, 5, 6, 7, 8, 9, 10] .nil) mixed ?_ ?_ ?_; kernel_rfl; kernel_rfl) | simp -implicitDefEqProofs (maxSteps := 2000000) (disch := first | assumption | omega) [*, ])
            refine aWl_for (β := Unit) false (nth fs k).code.length (fun j _ => (nth fs k).code.take j = (nth fs' k).code.take j) (fun j _ => [(8, .int .i64 j), (47, .any), (48, .any), (49, .any), (50, .any), (51, .any), (54, .any), (55, .any), (56, .any), (57, .any), (58, .any), (59, .any), (60, .any), (61, .any), (62, .any), (63, .any), (64, .any), (4, .any), (52, .any), (53, .any)]) (fun _ _ => s ++ (.cells [row fs, .int .i64 mu, row co, row se, row ch, row cho, .int .i64 th] :: .cells [row fs', .int .i64 mu', row co', row se', row ch', row cho', .int .i64 th'] :: (J ++ [.cells [.int .i64 (nth fs' k).locals, row (nth fs k).code], .cells [.int .i64 (nth fs' k).locals, row (nth fs' k).code]]))) (fun _ _ => v) ?_ ?_
            · exact ⟨(), by simp, by (refine Fits.of ?_ (Off.refl _ _); simp [upd_apply, upds_cons]), by simp [ha], rfl⟩
            rintro j _ hj hJ
            by_cases hjl : j < (nth fs k).code.length
            · have hjb : j < (nth fs' k).code.length := by omega
              by_cases hq : nth (nth fs k).code j = nth (nth fs' k).code j
              · repeat' (first | with_reducible refine br_t ?_ | with_reducible refine br_f ?_ | with_reducible refine br_dec (fun _ => ?_) (fun _ => ?_) | with_reducible refine g_dec (fun _ => ?_) (fun _ => ?_) | with_reducible refine g_ndec (fun _ => ?_) (fun _ => ?_) | with_reducible refine br_not (fun _ => ?_) (fun _ => ?_) | with_reducible refine br_split (fun _ => ?_) (fun _ => ?_) | with_reducible refine g_not (fun _ => ?_) (fun _ => ?_) | with_reducible refine g_split (fun _ => ?_) (fun _ => ?_) | with_reducible refine px_dec (fun _ => ?_) (fun _ => ?_) | with_reducible refine px_ndec (fun _ => ?_) (fun _ => ?_) | with_reducible refine px_split (fun _ => ?_) (fun _ => ?_) | (with_reducible refine aWh_draw (own := false) (id := 13) (.qs [0, 1, 2, 3, 4, 5, 6, 7, 8, 9, 10] .nil) mixed ?_ ?_ ?_; kernel_rfl; kernel_rfl) | simp -implicitDefEqProofs (maxSteps := 2000000) (disch := first | assumption | omega) [*, ])
                exact ⟨hjl, (), by show (nth fs k).code.take (j + 1) = (nth fs' k).code.take (j + 1); rw [take_succ_nth hjl, take_succ_nth hjb, hJ, hq], by (refine Fits.of ?_ ?_; rotate_left; (repeat (first | with_reducible exact Off.refl _ _ | refine Off.upd rfl ?_ | refine Off.updO rfl ?_ | refine Off.upds rfl ?_)); simp [upd_apply, upds_cons]), rfl, rfl⟩
              · have hq2 := ins_ne hq
                repeat' (first | with_reducible refine br_t ?_ | with_reducible refine br_f ?_ | with_reducible refine br_dec (fun _ => ?_) (fun _ => ?_) | with_reducible refine g_dec (fun _ => ?_) (fun _ => ?_) | with_reducible refine g_ndec (fun _ => ?_) (fun _ => ?_) | with_reducible refine br_not (fun _ => ?_) (fun _ => ?_) | with_reducible refine br_split (fun _ => ?_) (fun _ => ?_) | with_reducible refine g_not (fun _ => ?_) (fun _ => ?_) | with_reducible refine g_split (fun _ => ?_) (fun _ => ?_) | with_reducible refine px_dec (fun _ => ?_) (fun _ => ?_) | with_reducible refine px_ndec (fun _ => ?_) (fun _ => ?_) | with_reducible refine px_split (fun _ => ?_) (fun _ => ?_) | (with_reducible refine aWh_draw (own := false) (id := 13) (.qs [0, 1, 2, 3, 4, 5, 6, 7, 8, 9, 10] .nil) mixed ?_ ?_ ?_; kernel_rfl; kernel_rfl) | simp -implicitDefEqProofs (maxSteps := 2000000) (disch := first | assumption | omega) [*, ])
                all_goals exact EndsE.eqat (by simp [hd]) (by simp)
            · exfalso
              have : j = (nth fs k).code.length := by omega
              subst this
              rw [List.take_of_length_le (Nat.le_refl _), List.take_of_length_le (by omega)] at hJ
              apply hn
              generalize nth fs k = x at *
              generalize nth fs' k = y at *
              cases x; cases y; simp_all
          · have hb' : ((nth fs k).code.length : Int) ≠ (nth fs' k).code.length := by omega
            repeat' (first | with_reducible refine br_t ?_ | with_reducible refine br_f ?_ | with_reducible refine br_dec (fun _ => ?_) (fun _ => ?_) | with_reducible refine g_dec (fun _ => ?_) (fun _ => ?_) | with_reducible refine g_ndec (fun _ => ?_) (fun _ => ?_) | with_reducible refine br_not (fun _ => ?_) (fun _ => ?_) | with_reducible refine br_split (fun _ => ?_) (fun _ => ?_) | with_reducible refine g_not (fun _ => ?_) (fun _ => ?_) | with_reducible refine g_split (fun _ => ?_) (fun _ => ?_) | with_reducible refine px_dec (fun _ => ?_) (fun _ => ?_) | with_reducible refine px_ndec (fun _ => ?_) (fun _ => ?_) | with_reducible refine px_split (fun _ => ?_) (fun _ => ?_) | (with_reducible refine aWh_draw (own := false) (id := 13) (.qs [0, 1, 2, 3, 4, 5, 6, 7, 8, 9, 10] .nil) mixed ?_ ?_ ?_; kernel_rfl; kernel_rfl) | simp -implicitDefEqProofs (maxSteps := 2000000) (disch := first | assumption | omega) [*, ])
            all_goals exact EndsE.eqat (by simp [hd]) (by simp)
        · repeat' (first | with_reducible refine br_t ?_ | with_reducible refine br_f ?_ | with_reducible refine br_dec (fun _ => ?_) (fun _ => ?_) | with_reducible refine g_dec (fun _ => ?_) (fun _ => ?_) | with_reducible refine g_ndec (fun _ => ?_) (fun _ => ?_) | with_reducible refine br_not (fun _ => ?_) (fun _ => ?_) | with_reducible refine br_split (fun _ => ?_) (fun _ => ?_) | with_reducible refine g_not (fun _ => ?_) (fun _ => ?_) | with_reducible refine g_split (fun _ => ?_) (fun _ => ?_) | with_reducible refine px_dec (fun _ => ?_) (fun _ => ?_) | with_reducible refine px_ndec (fun _ => ?_) (fun _ => ?_) | with_reducible refine px_split (fun _ => ?_) (fun _ => ?_) | (with_reducible refine aWh_draw (own := false) (id := 13) (.qs [0, 1, 2, 3, 4, 5, 6, 7, 8, 9, 10] .nil) mixed ?_ ?_ ?_; kernel_rfl; kernel_rfl) | simp -implicitDefEqProofs (maxSteps := 2000000) (disch := first | assumption | omega) [*, ])
          all_goals exact EndsE.eqat (by simp [hd]) (by simp)
    · have : k = fs.length := by omega
      subst this
      have hd : fs = fs' := by rw [List.take_of_length_le (Nat.le_refl _), List.take_of_length_le (by omega)] at hI; exact hI
      repeat' (first | with_reducible refine br_t ?_ | with_reducible refine br_f ?_ | with_reducible refine br_dec (fun _ => ?_) (fun _ => ?_) | with_reducible refine g_dec (fun _ => ?_) (fun _ => ?_) | with_reducible refine g_ndec (fun _ => ?_) (fun _ => ?_) | with_reducible refine br_not (fun _ => ?_) (fun _ => ?_) | with_reducible refine br_split (fun _ => ?_) (fun _ => ?_) | with_reducible refine g_not (fun _ => ?_) (fun _ => ?_) | with_reducible refine g_split (fun _ => ?_) (fun _ => ?_) | with_reducible refine px_dec (fun _ => ?_) (fun _ => ?_) | with_reducible refine px_ndec (fun _ => ?_) (fun _ => ?_) | with_reducible refine px_split (fun _ => ?_) (fun _ => ?_) | (with_reducible refine aWh_draw (own := false) (id := 13) (.qs [0, 1, 2, 3, 4, 5, 6, 7, 8, 9, 10] .nil) mixed ?_ ?_ ?_; kernel_rfl; kernel_rfl) | with_reducible refine callE e2 ?_ | with_reducible refine callE e3 ?_ | with_reducible refine callE e4 ?_ | with_reducible refine callE e5 ?_ | simp -implicitDefEqProofs (maxSteps := 2000000) (disch := first | assumption | omega) [*, ])
      all_goals (first | (exfalso; omega) | ((try subst_vars); (first | refine EndsE.eq ?_ (by simp) | refine EndsE.eqat ?_ (by simp)); (first | with_reducible rfl | (simp [*, Prog.mk.injEq]; done) | (simp [*, Prog.mk.injEq]; omega) | (simp only [LV.bool.injEq]; rw [Bool.eq_iff_iff]; simp [*, Prog.mk.injEq]; done) | (simp only [LV.bool.injEq]; rw [Bool.eq_iff_iff]; simp [*, Prog.mk.injEq]; omega) | (simp only [LV.bool.injEq]; rw [Bool.eq_iff_iff]; simp (disch := omega) only [if_pos, if_neg, if_true, if_false, *, Prog.mk.injEq]; simp <;> omega) | (simp only [LV.bool.injEq, Bool.and_eq_false_imp, Bool.and_eq_true, decide_eq_true_eq]; intros; exfalso; omega) | (simp only [LV.bool.injEq, Bool.and_eq_false_imp, Bool.and_eq_true, decide_eq_true_eq]; intros; simp_all; done))))
  · have hd : fs ≠ fs' := by rintro rfl; exact hl rfl
    have hl' : (fs.length : Int) ≠ fs'.length := by omega
    refine aCalls_go Try.func18 rfl (by decide) Try.ntmps18 (by simp) false ?_
    have hres : Try.f18.results = #[.tmp 4] := rfl
    repeat' (first | with_reducible refine br_t ?_ | with_reducible refine br_f ?_ | with_reducible refine br_dec (fun _ => ?_) (fun _ => ?_) | with_reducible refine g_dec (fun _ => ?_) (fun _ => ?_) | with_reducible refine g_ndec (fun _ => ?_) (fun _ => ?_) | with_reducible refine br_not (fun _ => ?_) (fun _ => ?_) | with_reducible refine br_split (fun _ => ?_) (fun _ => ?_) | with_reducible refine g_not (fun _ => ?_) (fun _ => ?_) | with_reducible refine g_split (fun _ => ?_) (fun _ => ?_) | with_reducible refine px_dec (fun _ => ?_) (fun _ => ?_) | with_reducible refine px_ndec (fun _ => ?_) (fun _ => ?_) | with_reducible refine px_split (fun _ => ?_) (fun _ => ?_) | (with_reducible refine aWh_draw (own := false) (id := 13) (.qs [0, 1, 2, 3, 4, 5, 6, 7, 8, 9, 10] .nil) mixed ?_ ?_ ?_; kernel_rfl; kernel_rfl) | simp -implicitDefEqProofs (maxSteps := 2000000) (disch := first | assumption | omega) [*, ])
    all_goals exact EndsE.eqat (by simp [hd]) (by simp)
end Go.Hb
end

section
namespace Go.Hb
open Go Go.Proofs Go.RowKit
set_option maxRecDepth 100000
set_option maxHeartbeats 800000
attribute [-simp] aC aL aOper aThen aInBlock aIf aPlan aAppend aLen aIndexAddr aSlice aCells aBounds lBr aq initT aev aAppendOwn aAppendNil aAppendNew aAppendRef LV.cells LV.cellsOk getElem?_pos getElem?_neg

theorem cloneF_c {l : List Fn_} {s : List AObj} {v : List Nat} (hb2 : l.length * 32 ≤ 140737488355328) : aCalls Try.prog 42 [row l] s v (CloneR l s v) := by
  have hb : l.length ≤ maxLen := by unfold maxLen; omega
  by_cases hl : l = []
  · subst hl
    refine aCalls_emp ?_ ?_
    · refine aCalls_go Try.func42 rfl (by decide) Try.ntmps42 (by simp) true ?_
      have hres : Try.f42.results = #[.tmp 2] := rfl
      repeat' (first | with_reducible refine br_t ?_ | with_reducible refine br_f ?_ | with_reducible refine br_dec (fun _ => ?_) (fun _ => ?_) | with_reducible refine g_dec (fun _ => ?_) (fun _ => ?_) | with_reducible refine g_ndec (fun _ => ?_) (fun _ => ?_) | with_reducible refine br_not (fun _ => ?_) (fun _ => ?_) | with_reducible refine br_split (fun _ => ?_) (fun _ => ?_) | with_reducible refine g_not (fun _ => ?_) (fun _ => ?_) | with_reducible refine g_split (fun _ => ?_) (fun _ => ?_) | with_reducible refine px_dec (fun _ => ?_) (fun _ => ?_) | with_reducible refine px_ndec (fun _ => ?_) (fun _ => ?_) | with_reducible refine px_split (fun _ => ?_) (fun _ => ?_) | simp -implicitDefEqProofs (maxSteps := 2000000) (disch := first | assumption | omega) [*, ])
      exact ⟨rfl, .inl ⟨rfl, rfl, .inl rfl⟩⟩
    · have ha := own_clone0 (P := Try.prog) (t := 22) (t2 := 22) (sz := 2) (by_ := 32) (by kernel_rfl) s
      refine aCalls_go Try.func42 rfl (by decide) Try.ntmps42 (by simp) true ?_
      have hres : Try.f42.results = #[.tmp 2] := rfl
      repeat' (first | with_reducible refine br_t ?_ | with_reducible refine br_f ?_ | with_reducible refine br_dec (fun _ => ?_) (fun _ => ?_) | with_reducible refine g_dec (fun _ => ?_) (fun _ => ?_) | with_reducible refine g_ndec (fun _ => ?_) (fun _ => ?_) | with_reducible refine br_not (fun _ => ?_) (fun _ => ?_) | with_reducible refine br_split (fun _ => ?_) (fun _ => ?_) | with_reducible refine g_not (fun _ => ?_) (fun _ => ?_) | with_reducible refine g_split (fun _ => ?_) (fun _ => ?_) | with_reducible refine px_dec (fun _ => ?_) (fun _ => ?_) | with_reducible refine px_ndec (fun _ => ?_) (fun _ => ?_) | with_reducible refine px_split (fun _ => ?_) (fun _ => ?_) | simp -implicitDefEqProofs (maxSteps := 2000000) (disch := first | assumption | omega) [*, ])
      exact ⟨rfl, .inl ⟨rfl, rfl, .inr rfl⟩⟩
  · have h0 : l.length ≠ 0 := fun h => hl (List.length_eq_zero_iff.1 h)
    have ha := own_clone (P := Try.prog) (t := 22) (t2 := 22) (sz := 2) (by_ := 32) (by kernel_rfl) rfl h0 hb hb2 s
    show aCalls Try.prog 42 [.imm 2 l.length (rowCs l) .no] s v (CloneR l s v)
    replace ha : aAppendOwn Try.prog 22 22 (.imm 2 0 [] .full) (.imm 2 l.length (rowCs l) .no) s = some (.ref 2 s.length 0 l.length false, s ++ [.cells (rowCs l)]) := ha
    refine aCalls_go Try.func42 rfl (by decide) Try.ntmps42 (by simp) true ?_
    have hres : Try.f42.results = #[.tmp 2] := rfl
    repeat' (first | with_reducible refine br_t ?_ | with_reducible refine br_f ?_ | with_reducible refine br_dec (fun _ => ?_) (fun _ => ?_) | with_reducible refine g_dec (fun _ => ?_) (fun _ => ?_) | with_reducible refine g_ndec (fun _ => ?_) (fun _ => ?_) | with_reducible refine br_not (fun _ => ?_) (fun _ => ?_) | with_reducible refine br_split (fun _ => ?_) (fun _ => ?_) | with_reducible refine g_not (fun _ => ?_) (fun _ => ?_) | with_reducible refine g_split (fun _ => ?_) (fun _ => ?_) | with_reducible refine px_dec (fun _ => ?_) (fun _ => ?_) | with_reducible refine px_ndec (fun _ => ?_) (fun _ => ?_) | with_reducible refine px_split (fun _ => ?_) (fun _ => ?_) | simp -implicitDefEqProofs (maxSteps := 2000000) (disch := first | assumption | omega) [*, ])
    exact ⟨rfl, .inr ⟨hl, rfl, rfl⟩⟩

theorem cloneIns_c {l : List Ins} {s : List AObj} {v : List Nat} (hb2 : l.length * 16 ≤ 140737488355328) : aCalls Try.prog 43 [row l] s v (CloneR l s v) := by
  have hb : l.length ≤ maxLen := by unfold maxLen; omega
  by_cases hl : l = []
  · subst hl
    refine aCalls_emp ?_ ?_
    · refine aCalls_go Try.func43 rfl (by decide) Try.ntmps43 (by simp) true ?_
      have hres : Try.f43.results = #[.tmp 2] := rfl
      repeat' (first | with_reducible refine br_t ?_ | with_reducible refine br_f ?_ | with_reducible refine br_dec (fun _ => ?_) (fun _ => ?_) | with_reducible refine g_dec (fun _ => ?_) (fun _ => ?_) | with_reducible refine g_ndec (fun _ => ?_) (fun _ => ?_) | with_reducible refine br_not (fun _ => ?_) (fun _ => ?_) | with_reducible refine br_split (fun _ => ?_) (fun _ => ?_) | with_reducible refine g_not (fun _ => ?_) (fun _ => ?_) | with_reducible refine g_split (fun _ => ?_) (fun _ => ?_) | with_reducible refine px_dec (fun _ => ?_) (fun _ => ?_) | with_reducible refine px_ndec (fun _ => ?_) (fun _ => ?_) | with_reducible refine px_split (fun _ => ?_) (fun _ => ?_) | simp -implicitDefEqProofs (maxSteps := 2000000) (disch := first | assumption | omega) [*, ])
      exact ⟨rfl, .inl ⟨rfl, rfl, .inl rfl⟩⟩
    · have ha := own_clone0 (P := Try.prog) (t := 41) (t2 := 41) (sz := 2) (by_ := 16) (by kernel_rfl) s
      refine aCalls_go Try.func43 rfl (by decide) Try.ntmps43 (by simp) true ?_
      have hres : Try.f43.results = #[.tmp 2] := rfl
      repeat' (first | with_reducible refine br_t ?_ | with_reducible refine br_f ?_ | with_reducible refine br_dec (fun _ => ?_) (fun _ => ?_) | with_reducible refine g_dec (fun _ => ?_) (fun _ => ?_) | with_reducible refine g_ndec (fun _ => ?_) (fun _ => ?_) | with_reducible refine br_not (fun _ => ?_) (fun _ => ?_) | with_reducible refine br_split (fun _ => ?_) (fun _ => ?_) | with_reducible refine g_not (fun _ => ?_) (fun _ => ?_) | with_reducible refine g_split (fun _ => ?_) (fun _ => ?_) | with_reducible refine px_dec (fun _ => ?_) (fun _ => ?_) | with_reducible refine px_ndec (fun _ => ?_) (fun _ => ?_) | with_reducible refine px_split (fun _ => ?_) (fun _ => ?_) | simp -implicitDefEqProofs (maxSteps := 2000000) (disch := first | assumption | omega) [*, ])
      exact ⟨rfl, .inl ⟨rfl, rfl, .inr rfl⟩⟩
  · have h0 : l.length ≠ 0 := fun h => hl (List.length_eq_zero_iff.1 h)
    have ha := own_clone (P := Try.prog) (t := 41) (t2 := 41) (sz := 2) (by_ := 16) (by kernel_rfl) rfl h0 hb hb2 s
    show aCalls Try.prog 43 [.imm 2 l.length (rowCs l) .no] s v (CloneR l s v)
    replace ha : aAppendOwn Try.prog 41 41 (.imm 2 0 [] .full) (.imm 2 l.length (rowCs l) .no) s = some (.ref 2 s.length 0 l.length false, s ++ [.cells (rowCs l)]) := ha
    refine aCalls_go Try.func43 rfl (by decide) Try.ntmps43 (by simp) true ?_
    have hres : Try.f43.results = #[.tmp 2] := rfl
    repeat' (first | with_reducible refine br_t ?_ | with_reducible refine br_f ?_ | with_reducible refine br_dec (fun _ => ?_) (fun _ => ?_) | with_reducible refine g_dec (fun _ => ?_) (fun _ => ?_) | with_reducible refine g_ndec (fun _ => ?_) (fun _ => ?_) | with_reducible refine br_not (fun _ => ?_) (fun _ => ?_) | with_reducible refine br_split (fun _ => ?_) (fun _ => ?_) | with_reducible refine g_not (fun _ => ?_) (fun _ => ?_) | with_reducible refine g_split (fun _ => ?_) (fun _ => ?_) | with_reducible refine px_dec (fun _ => ?_) (fun _ => ?_) | with_reducible refine px_ndec (fun _ => ?_) (fun _ => ?_) | with_reducible refine px_split (fun _ => ?_) (fun _ => ?_) | simp -implicitDefEqProofs (maxSteps := 2000000) (disch := first | assumption | omega) [*, ])
    exact ⟨rfl, .inr ⟨hl, rfl, rfl⟩⟩

theorem cloneL_c {l : List (List Int)} {s : List AObj} {v : List Nat} (hb2 : l.length * 24 ≤ 140737488355328) : aCalls Try.prog 45 [row l] s v (CloneR l s v) := by
  have hb : l.length ≤ maxLen := by unfold maxLen; omega
  by_cases hl : l = []
  · subst hl
    refine aCalls_emp ?_ ?_
    · refine aCalls_go Try.func45 rfl (by decide) Try.ntmps45 (by simp) true ?_
      have hres : Try.f45.results = #[.tmp 2] := rfl
      repeat' (first | with_reducible refine br_t ?_ | with_reducible refine br_f ?_ | with_reducible refine br_dec (fun _ => ?_) (fun _ => ?_) | with_reducible refine g_dec (fun _ => ?_) (fun _ => ?_) | with_reducible refine g_ndec (fun _ => ?_) (fun _ => ?_) | with_reducible refine br_not (fun _ => ?_) (fun _ => ?_) | with_reducible refine br_split (fun _ => ?_) (fun _ => ?_) | with_reducible refine g_not (fun _ => ?_) (fun _ => ?_) | with_reducible refine g_split (fun _ => ?_) (fun _ => ?_) | with_reducible refine px_dec (fun _ => ?_) (fun _ => ?_) | with_reducible refine px_ndec (fun _ => ?_) (fun _ => ?_) | with_reducible refine px_split (fun _ => ?_) (fun _ => ?_) | simp -implicitDefEqProofs (maxSteps := 2000000) (disch := first | assumption | omega) [*, ])
      exact ⟨rfl, .inl ⟨rfl, rfl, .inl rfl⟩⟩
    · have ha := own_clone0 (P := Try.prog) (t := 24) (t2 := 24) (sz := 1) (by_ := 24) (by kernel_rfl) s
      refine aCalls_go Try.func45 rfl (by decide) Try.ntmps45 (by simp) true ?_
      have hres : Try.f45.results = #[.tmp 2] := rfl
      repeat' (first | with_reducible refine br_t ?_ | with_reducible refine br_f ?_ | with_reducible refine br_dec (fun _ => ?_) (fun _ => ?_) | with_reducible refine g_dec (fun _ => ?_) (fun _ => ?_) | with_reducible refine g_ndec (fun _ => ?_) (fun _ => ?_) | with_reducible refine br_not (fun _ => ?_) (fun _ => ?_) | with_reducible refine br_split (fun _ => ?_) (fun _ => ?_) | with_reducible refine g_not (fun _ => ?_) (fun _ => ?_) | with_reducible refine g_split (fun _ => ?_) (fun _ => ?_) | with_reducible refine px_dec (fun _ => ?_) (fun _ => ?_) | with_reducible refine px_ndec (fun _ => ?_) (fun _ => ?_) | with_reducible refine px_split (fun _ => ?_) (fun _ => ?_) | simp -implicitDefEqProofs (maxSteps := 2000000) (disch := first | assumption | omega) [*, ])
      exact ⟨rfl, .inl ⟨rfl, rfl, .inr rfl⟩⟩
  · have h0 : l.length ≠ 0 := fun h => hl (List.length_eq_zero_iff.1 h)
    have ha := own_clone (P := Try.prog) (t := 24) (t2 := 24) (sz := 1) (by_ := 24) (by kernel_rfl) rfl h0 hb hb2 s
    show aCalls Try.prog 45 [.imm 1 l.length (rowCs l) .no] s v (CloneR l s v)
    replace ha : aAppendOwn Try.prog 24 24 (.imm 1 0 [] .full) (.imm 1 l.length (rowCs l) .no) s = some (.ref 1 s.length 0 l.length false, s ++ [.cells (rowCs l)]) := ha
    refine aCalls_go Try.func45 rfl (by decide) Try.ntmps45 (by simp) true ?_
    have hres : Try.f45.results = #[.tmp 2] := rfl
    repeat' (first | with_reducible refine br_t ?_ | with_reducible refine br_f ?_ | with_reducible refine br_dec (fun _ => ?_) (fun _ => ?_) | with_reducible refine g_dec (fun _ => ?_) (fun _ => ?_) | with_reducible refine g_ndec (fun _ => ?_) (fun _ => ?_) | with_reducible refine br_not (fun _ => ?_) (fun _ => ?_) | with_reducible refine br_split (fun _ => ?_) (fun _ => ?_) | with_reducible refine g_not (fun _ => ?_) (fun _ => ?_) | with_reducible refine g_split (fun _ => ?_) (fun _ => ?_) | with_reducible refine px_dec (fun _ => ?_) (fun _ => ?_) | with_reducible refine px_ndec (fun _ => ?_) (fun _ => ?_) | with_reducible refine px_split (fun _ => ?_) (fun _ => ?_) | simp -implicitDefEqProofs (maxSteps := 2000000) (disch := first | assumption | omega) [*, ])
    exact ⟨rfl, .inr ⟨hl, rfl, rfl⟩⟩
end Go.Hb
end

section
namespace Go.Hb
open Go Go.Proofs Go.RowKit
set_option maxRecDepth 100000
set_option maxHeartbeats 800000
attribute [-simp] aC aL aOper aThen aInBlock aIf aPlan aAppend aLen aIndexAddr aSlice aCells aBounds lBr aq initT aev aAppendOwn aAppendNil aAppendNew aAppendRef LV.cells LV.cellsOk getElem?_pos getElem?_neg

/-- functions as a clone has them: their cells r, the codes of the first k among J from b on -/
def FunsO (b : Nat) (J : List AObj) (L : List Fn_) (k : Nat) (r : List LV) : Prop :=
  r.length = L.length * 2 ∧ ∀ i, i < L.length → r[i * 2]? = some (.int .i64 (nth L i).locals) ∧ ∃ x, r[i * 2 + 1]? = some x ∧ (i < k → CloneO b J (nth L i).code x) ∧ (k ≤ i → x = row (nth L i).code)
theorem two_at {r : List LV} {i : Nat} {a c : LV} (h1 : r[i]? = some a) (h2 : r[i + 1]? = some c) : (r.drop i).take 2 = [a, c] := by
  have e1 := (List.getElem?_eq_some_iff.1 h1)
  have e2 := (List.getElem?_eq_some_iff.1 h2)
  obtain ⟨l1, e1⟩ := e1
  obtain ⟨l2, e2⟩ := e2
  rw [List.drop_eq_getElem_cons l1, List.drop_eq_getElem_cons l2, e1, e2]; rfl
theorem one_at {r : List LV} {i : Nat} {a : LV} (h1 : r[i]? = some a) : (r.drop i).take 1 = [a] := by
  obtain ⟨l1, e1⟩ := (List.getElem?_eq_some_iff.1 h1)
  rw [List.drop_eq_getElem_cons l1, e1]; rfl
theorem FunsO.init (b : Nat) (J : List AObj) (L : List Fn_) : FunsO b J L 0 (rowCs L) := by
  refine ⟨rowCs_len L, fun i hi => ?_⟩
  have h := rowCs_at (l := L) hi
  simp only [sz_fn, enc_fn] at h
  have h1 : (((rowCs L).drop (i * 2)).take 2)[0]? = some (.int .i64 (nth L i).locals) := by rw [h]; rfl
  have h2 : (((rowCs L).drop (i * 2)).take 2)[1]? = some (row (nth L i).code) := by rw [h]; rfl
  rw [List.getElem?_take_of_lt (by omega), List.getElem?_drop] at h1 h2
  exact ⟨h1, _, h2, fun h => absurd h (by omega), fun _ => rfl⟩
theorem FunsO.app {b : Nat} {J J' : List AObj} {L : List Fn_} {k : Nat} {r : List LV} (h : FunsO b J L k r) : FunsO b (J ++ J') L k r :=
  ⟨h.1, fun i hi => by obtain ⟨h1, x, h2, h3, h4⟩ := h.2 i hi; exact ⟨h1, x, h2, fun hk => (h3 hk).app, h4⟩⟩
theorem FunsO.step {b : Nat} {J J' : List AObj} {L : List Fn_} {k : Nat} {r : List LV} {x : LV} (h : FunsO b J L k r) (hk : k < L.length) (hx : CloneO b (J ++ J') (nth L k).code x) : FunsO b (J ++ J') L (k + 1) (r.set (k * 2 + 1) x) := by
  refine ⟨by simp [h.1], fun i hi => ?_⟩
  obtain ⟨h1, y, h2, h3, h4⟩ := h.2 i hi
  refine ⟨by rw [List.getElem?_set_ne (by omega)]; exact h1, ?_⟩
  by_cases e : i = k
  · subst e
    have hl := h.1
    refine ⟨x, by rw [List.getElem?_set_self (by omega)], fun _ => hx, fun h => absurd h (by omega)⟩
  · exact ⟨y, by rw [List.getElem?_set_ne (by omega)]; exact h2, fun hi' => (h3 (by omega)).app, fun hi' => h4 (by omega)⟩
def ListsO (b : Nat) (J : List AObj) (L : List (List Int)) (k : Nat) (r : List LV) : Prop :=
  r.length = L.length ∧ ∀ i, i < L.length → ∃ x, r[i]? = some x ∧ (i < k → CloneO b J (nth L i) x) ∧ (k ≤ i → x = row (nth L i))
theorem ListsO.init (b : Nat) (J : List AObj) (L : List (List Int)) : ListsO b J L 0 (rowCs L) := by
  refine ⟨by rw [rowCs_len]; simp, fun i hi => ?_⟩
  have h := rowCs_at (l := L) hi
  simp only [sz_list, enc_list, Nat.mul_one] at h
  have h1 : (((rowCs L).drop i).take 1)[0]? = some (row (nth L i)) := by rw [h]; rfl
  rw [List.getElem?_take_of_lt (by omega), List.getElem?_drop] at h1
  exact ⟨_, h1, fun h => absurd h (by omega), fun _ => rfl⟩
theorem ListsO.step {b : Nat} {J J' : List AObj} {L : List (List Int)} {k : Nat} {r : List LV} {x : LV} (h : ListsO b J L k r) (hk : k < L.length) (hx : CloneO b (J ++ J') (nth L k) x) : ListsO b (J ++ J') L (k + 1) (r.set k x) := by
  refine ⟨by simp [h.1], fun i hi => ?_⟩
  obtain ⟨y, h2, h3, h4⟩ := h.2 i hi
  by_cases e : i = k
  · subst e
    have hl := h.1
    refine ⟨x, by rw [List.getElem?_set_self (by omega)], fun _ => hx, fun h => absurd h (by omega)⟩
  · exact ⟨y, by rw [List.getElem?_set_ne (by omega)]; exact h2, fun hi' => (h3 (by omega)).app, fun hi' => h4 (by omega)⟩
/-- What a clone of a program is. -/
def CloneP (s : List AObj) (v : List Nat) (p : Prog) (y : LV) (s' : List AObj) (v' : List Nat) : Prop :=
  v = v' ∧ ∃ a z r J0 K xC xS xH xO, s ++ (a :: z :: .cells r :: (J0 ++ K)) = s' ∧ y = .agg [.ref 2 (s.length + 2) 0 p.funcs.length false, .int .i64 p.mutexes, xC, xS, xH, xO, .int .i64 p.threads] ∧
    FunsO (s.length + 3) J0 p.funcs p.funcs.length r ∧ CloneO (s.length + 3) J0 p.conds xC ∧ CloneO (s.length + 3) J0 p.semas xS ∧ CloneO (s.length + 3) J0 p.chans xH ∧
    ((p.choices = [] ∧ K = [] ∧ NilRow 1 xO) ∨ (p.choices ≠ [] ∧ ∃ rO J1, K = .cells rO :: J1 ∧ xO = .ref 1 (s.length + (J0.length + 3)) 0 p.choices.length false ∧ ListsO (s.length + (J0.length + 4)) J1 p.choices p.choices.length rO))

set_option maxHeartbeats 8000000 in
theorem cclone_c {fs : List Fn_} {mu th : Int} {co se ch : List Int} {cho : List (List Int)} {s : List AObj} {v : List Nat} (hfs : fs ≠ []) (hfl : fs.length ≤ 1000) (hcl : ∀ k < fs.length, (nth fs k).code.length ≤ 1000) (h3 : co.length ≤ 1000) (h4 : se.length ≤ 1000) (h5 : ch.length ≤ 1000) (hol : cho.length ≤ 1000) (hrl : ∀ k < cho.length, (nth cho k).length ≤ 1000) :
    aCalls Try.prog 16 [.agg [row fs, .int .i64 mu, row co, row se, row ch, row cho, .int .i64 th]] s v (CloneP s v ⟨fs, mu, co, se, ch, cho, th⟩) := by
  have hf0 : fs.length ≠ 0 := fun e => hfs (List.length_eq_zero_iff.1 e)
  refine aCalls_go Try.func16 rfl (by decide) Try.ntmps16 (by simp) true ?_
  have hres : Try.f16.results = #[.cell 2 26] := rfl
  repeat' (first | with_reducible refine br_t ?_ | with_reducible refine br_f ?_ | with_reducible refine br_dec (fun _ => ?_) (fun _ => ?_) | with_reducible refine g_dec (fun _ => ?_) (fun _ => ?_) | with_reducible refine g_ndec (fun _ => ?_) (fun _ => ?_) | with_reducible refine br_not (fun _ => ?_) (fun _ => ?_) | with_reducible refine br_split (fun _ => ?_) (fun _ => ?_) | with_reducible refine g_not (fun _ => ?_) (fun _ => ?_) | with_reducible refine g_split (fun _ => ?_) (fun _ => ?_) | with_reducible refine px_dec (fun _ => ?_) (fun _ => ?_) | with_reducible refine px_ndec (fun _ => ?_) (fun _ => ?_) | with_reducible refine px_split (fun _ => ?_) (fun _ => ?_) | (with_reducible refine aWh_draw (own := true) (id := 5) (.qs [0, 1, 2, 3, 4] (.w 5 [1] (.qs [6, 7] (.w 8 [] .nil)))) mixed ?_ ?_ ?_; kernel_rfl; kernel_rfl) | (with_reducible refine aWh_draw (own := true) (id := 7) (.qs [0, 1, 3, 4, 6, 7, 9, 10] (.w 2 [10, 7, 4] (.qs [12] (.w 5 [10, 7] (.w 8 [10] (.w 11 [] (.w 13 [] (.qs [14] (.w 15 [] (.qs [16] (.w 17 [] (.qs [18] (.w 19 [] .nil))))))))))))) mixed ?_ ?_ ?_; kernel_rfl; kernel_rfl) | (with_reducible refine aWh_draw (own := true) (id := 11) (.qs [0, 1, 2, 3] (.w 4 [1] (.qs [5] (.w 6 [] .nil)))) mixed ?_ ?_ ?_; kernel_rfl; kernel_rfl) | with_reducible refine aCalls_mono (cloneF_c (by omega)) ?_ | simp -implicitDefEqProofs (maxSteps := 2000000) (disch := first | assumption | omega) [*, ])
  rintro x _ _ ⟨rfl, ⟨e, _, _⟩ | ⟨_, rfl, rfl⟩⟩
  · exact absurd e hfs
  repeat' (first | with_reducible refine br_t ?_ | with_reducible refine br_f ?_ | with_reducible refine br_dec (fun _ => ?_) (fun _ => ?_) | with_reducible refine g_dec (fun _ => ?_) (fun _ => ?_) | with_reducible refine g_ndec (fun _ => ?_) (fun _ => ?_) | with_reducible refine br_not (fun _ => ?_) (fun _ => ?_) | with_reducible refine br_split (fun _ => ?_) (fun _ => ?_) | with_reducible refine g_not (fun _ => ?_) (fun _ => ?_) | with_reducible refine g_split (fun _ => ?_) (fun _ => ?_) | with_reducible refine px_dec (fun _ => ?_) (fun _ => ?_) | with_reducible refine px_ndec (fun _ => ?_) (fun _ => ?_) | with_reducible refine px_split (fun _ => ?_) (fun _ => ?_) | (with_reducible refine aWh_draw (own := true) (id := 5) (.qs [0, 1, 2, 3, 4] (.w 5 [1] (.qs [6, 7] (.w 8 [] .nil)))) mixed ?_ ?_ ?_; kernel_rfl; kernel_rfl) | (with_reducible refine aWh_draw (own := true) (id := 7) (.qs [0, 1, 3, 4, 6, 7, 9, 10] (.w 2 [10, 7, 4] (.qs [12] (.w 5 [10, 7] (.w 8 [10] (.w 11 [] (.w 13 [] (.qs [14] (.w 15 [] (.qs [16] (.w 17 [] (.qs [18] (.w 19 [] .nil))))))))))))) mixed ?_ ?_ ?_; kernel_rfl; kernel_rfl) | (with_reducible refine aWh_draw (own := true) (id := 11) (.qs [0, 1, 2, 3] (.w 4 [1] (.qs [5] (.w 6 [] .nil)))) mixed ?_ ?_ ?_; kernel_rfl; kernel_rfl) | simp -implicitDefEqProofs (maxSteps := 2000000) (disch := first | assumption | omega) [*, ])
  refine aW_for (β := List LV × List AObj) true fs.length (fun k p => FunsO (s.length + 3) p.2 fs k p.1) (fun k p => [(14, .int .i64 k), (15, .any), (16, .any), (17, .any), (18, .any), (4, .any), (3, .any), (19, .any), (20, .any), (21, .any), (22, .any), (23, .any), (24, .any), (25, .any), (26, .any), (27, .any)]) (fun k p => s ++ (.cells [.ref 2 (s.length + 2) 0 fs.length false, .int .i64 mu, row co, row se, row ch, row cho, .int .i64 th] :: .cells [.nils, .int .i64 0, .nils, .nils, .nils, .nils, .int .i64 0] :: .cells p.1 :: p.2)) (fun _ p => v) ?_ ?_
  · exact ⟨(rowCs fs, []), FunsO.init _ _ _, by (refine Fits.of ?_ (Off.refl _ _); simp [upd_apply, upds_cons]), rfl, rfl⟩
  rintro k ⟨r, J⟩ hk hF
  simp only at hF
  by_cases hlt : k < fs.length
  · obtain ⟨e1, x0, e2, _, e4⟩ := hF.2 k hlt
    have e4 := e4 (Nat.le_refl k)
    subst e4
    have h2 := two_at e1 e2
    have hrl0 := hF.1
    have hle : k * 2 + 2 ≤ r.length := by omega
    have hle2 : k * 2 + 2 ≤ fs.length * 2 := by omega
    have hle3 : k * 2 + 1 + 1 ≤ r.length := by omega
    have hc := fun s v => cloneIns_c (l := (nth fs k).code) (s := s) (v := v) (by have := hcl k hlt; omega)
    repeat' (first | with_reducible refine br_t ?_ | with_reducible refine br_f ?_ | with_reducible refine br_dec (fun _ => ?_) (fun _ => ?_) | with_reducible refine g_dec (fun _ => ?_) (fun _ => ?_) | with_reducible refine g_ndec (fun _ => ?_) (fun _ => ?_) | with_reducible refine br_not (fun _ => ?_) (fun _ => ?_) | with_reducible refine br_split (fun _ => ?_) (fun _ => ?_) | with_reducible refine g_not (fun _ => ?_) (fun _ => ?_) | with_reducible refine g_split (fun _ => ?_) (fun _ => ?_) | with_reducible refine px_dec (fun _ => ?_) (fun _ => ?_) | with_reducible refine px_ndec (fun _ => ?_) (fun _ => ?_) | with_reducible refine px_split (fun _ => ?_) (fun _ => ?_) | (with_reducible refine aWh_draw (own := true) (id := 5) (.qs [0, 1, 2, 3, 4] (.w 5 [1] (.qs [6, 7] (.w 8 [] .nil)))) mixed ?_ ?_ ?_; kernel_rfl; kernel_rfl) | (with_reducible refine aWh_draw (own := true) (id := 7) (.qs [0, 1, 3, 4, 6, 7, 9, 10] (.w 2 [10, 7, 4] (.qs [12] (.w 5 [10, 7] (.w 8 [10] (.w 11 [] (.w 13 [] (.qs [14] (.w 15 [] (.qs [16] (.w 17 [] (.qs [18] (.w 19 [] .nil))))))))))))) mixed ?_ ?_ ?_; kernel_rfl; kernel_rfl) | (with_reducible refine aWh_draw (own := true) (id := 11) (.qs [0, 1, 2, 3] (.w 4 [1] (.qs [5] (.w 6 [] .nil)))) mixed ?_ ?_ ?_; kernel_rfl; kernel_rfl) | with_reducible refine callK (hc _ _) (fun x J2 hxc hx => ?_) | simp -implicitDefEqProofs (maxSteps := 2000000) (disch := first | assumption | omega) [*, ])
    have hx := hx (s ++ [.cells [.ref 2 (s.length + 2) 0 fs.length false, .int .i64 mu, row co, row se, row ch, row cho, .int .i64 th], .cells [.nils, .int .i64 0, .nils, .nils, .nils, .nils, .int .i64 0], .cells r]) (J ++ [.cells [.int .i64 (nth fs k).locals, row (nth fs k).code]]) (by simp)
    simp only [List.length_append, List.length_cons, List.length_nil] at hx
    exact ⟨hlt, (r.set (k * 2 + 1) x, J ++ ([.cells [.int .i64 (nth fs k).locals, row (nth fs k).code]] ++ J2)), FunsO.step hF hlt (by simpa using hx), by (refine Fits.of ?_ ?_; rotate_left; (repeat (first | with_reducible exact Off.refl _ _ | refine Off.upd rfl ?_ | refine Off.updO rfl ?_ | refine Off.upds rfl ?_)); simp [upd_apply, upds_cons]), by simp, rfl⟩
  · have : k = fs.length := by omega
    subst this
    have c1 := fun s v => cloneI_c (l := co) (s := s) (v := v) (by unfold maxLen; omega) (by omega)
    have c2 := fun s v => cloneI_c (l := se) (s := s) (v := v) (by unfold maxLen; omega) (by omega)
    have c3 := fun s v => cloneI_c (l := ch) (s := s) (v := v) (by unfold maxLen; omega) (by omega)
    repeat' (first | with_reducible refine br_t ?_ | with_reducible refine br_f ?_ | with_reducible refine br_dec (fun _ => ?_) (fun _ => ?_) | with_reducible refine g_dec (fun _ => ?_) (fun _ => ?_) | with_reducible refine g_ndec (fun _ => ?_) (fun _ => ?_) | with_reducible refine br_not (fun _ => ?_) (fun _ => ?_) | with_reducible refine br_split (fun _ => ?_) (fun _ => ?_) | with_reducible refine g_not (fun _ => ?_) (fun _ => ?_) | with_reducible refine g_split (fun _ => ?_) (fun _ => ?_) | with_reducible refine px_dec (fun _ => ?_) (fun _ => ?_) | with_reducible refine px_ndec (fun _ => ?_) (fun _ => ?_) | with_reducible refine px_split (fun _ => ?_) (fun _ => ?_) | (with_reducible refine aWh_draw (own := true) (id := 5) (.qs [0, 1, 2, 3, 4] (.w 5 [1] (.qs [6, 7] (.w 8 [] .nil)))) mixed ?_ ?_ ?_; kernel_rfl; kernel_rfl) | (with_reducible refine aWh_draw (own := true) (id := 7) (.qs [0, 1, 3, 4, 6, 7, 9, 10] (.w 2 [10, 7, 4] (.qs [12] (.w 5 [10, 7] (.w 8 [10] (.w 11 [] (.w 13 [] (.qs [14] (.w 15 [] (.qs [16] (.w 17 [] (.qs [18] (.w 19 [] .nil))))))))))))) mixed ?_ ?_ ?_; kernel_rfl; kernel_rfl) | (with_reducible refine aWh_draw (own := true) (id := 11) (.qs [0, 1, 2, 3] (.w 4 [1] (.qs [5] (.w 6 [] .nil)))) mixed ?_ ?_ ?_; kernel_rfl; kernel_rfl) | with_reducible refine callK (c1 _ _) (fun x1 J1 hxc1 hx1 => ?_) | simp -implicitDefEqProofs (maxSteps := 2000000) (disch := first | assumption | omega) [*, ])
    replace hx1 := hx1 (s ++ [.cells [.ref 2 (s.length + 2) 0 fs.length false, .int .i64 mu, row co, row se, row ch, row cho, .int .i64 th], .cells [.nils, .int .i64 0, .nils, .nils, .nils, .nils, .int .i64 0], .cells r]) J (by simp)
    simp only [List.length_append, List.length_cons, List.length_nil, Nat.reduceAdd, Nat.zero_add] at hx1
    replace hF := hF.app (J' := J1)
    generalize J ++ J1 = Ja at *
    repeat' (first | with_reducible refine br_t ?_ | with_reducible refine br_f ?_ | with_reducible refine br_dec (fun _ => ?_) (fun _ => ?_) | with_reducible refine g_dec (fun _ => ?_) (fun _ => ?_) | with_reducible refine g_ndec (fun _ => ?_) (fun _ => ?_) | with_reducible refine br_not (fun _ => ?_) (fun _ => ?_) | with_reducible refine br_split (fun _ => ?_) (fun _ => ?_) | with_reducible refine g_not (fun _ => ?_) (fun _ => ?_) | with_reducible refine g_split (fun _ => ?_) (fun _ => ?_) | with_reducible refine px_dec (fun _ => ?_) (fun _ => ?_) | with_reducible refine px_ndec (fun _ => ?_) (fun _ => ?_) | with_reducible refine px_split (fun _ => ?_) (fun _ => ?_) | (with_reducible refine aWh_draw (own := true) (id := 5) (.qs [0, 1, 2, 3, 4] (.w 5 [1] (.qs [6, 7] (.w 8 [] .nil)))) mixed ?_ ?_ ?_; kernel_rfl; kernel_rfl) | (with_reducible refine aWh_draw (own := true) (id := 7) (.qs [0, 1, 3, 4, 6, 7, 9, 10] (.w 2 [10, 7, 4] (.qs [12] (.w 5 [10, 7] (.w 8 [10] (.w 11 [] (.w 13 [] (.qs [14] (.w 15 [] (.qs [16] (.w 17 [] (.qs [18] (.w 19 [] .nil))))))))))))) mixed ?_ ?_ ?_; kernel_rfl; kernel_rfl) | (with_reducible refine aWh_draw (own := true) (id := 11) (.qs [0, 1, 2, 3] (.w 4 [1] (.qs [5] (.w 6 [] .nil)))) mixed ?_ ?_ ?_; kernel_rfl; kernel_rfl) | with_reducible refine callK (c2 _ _) (fun x2 J2 hxc2 hx2 => ?_) | simp -implicitDefEqProofs (maxSteps := 2000000) (disch := first | assumption | omega) [*, ])
    replace hx2 := hx2 (s ++ [.cells [.ref 2 (s.length + 2) 0 fs.length false, .int .i64 mu, row co, row se, row ch, row cho, .int .i64 th], .cells [.nils, .int .i64 0, .nils, .nils, .nils, .nils, .int .i64 0], .cells r]) Ja (by simp)
    simp only [List.length_append, List.length_cons, List.length_nil, Nat.reduceAdd, Nat.zero_add] at hx2
    replace hF := hF.app (J' := J2)
    replace hx1 := hx1.app (J' := J2)
    generalize Ja ++ J2 = Jb at *
    repeat' (first | with_reducible refine br_t ?_ | with_reducible refine br_f ?_ | with_reducible refine br_dec (fun _ => ?_) (fun _ => ?_) | with_reducible refine g_dec (fun _ => ?_) (fun _ => ?_) | with_reducible refine g_ndec (fun _ => ?_) (fun _ => ?_) | with_reducible refine br_not (fun _ => ?_) (fun _ => ?_) | with_reducible refine br_split (fun _ => ?_) (fun _ => ?_) | with_reducible refine g_not (fun _ => ?_) (fun _ => ?_) | with_reducible refine g_split (fun _ => ?_) (fun _ => ?_) | with_reducible refine px_dec (fun _ => ?_) (fun _ => ?_) | with_reducible refine px_ndec (fun _ => ?_) (fun _ => ?_) | with_reducible refine px_split (fun _ => ?_) (fun _ => ?_) | (with_reducible refine aWh_draw (own := true) (id := 5) (.qs [0, 1, 2, 3, 4] (.w 5 [1] (.qs [6, 7] (.w 8 [] .nil)))) mixed ?_ ?_ ?_; kernel_rfl; kernel_rfl) | (with_reducible refine aWh_draw (own := true) (id := 7) (.qs [0, 1, 3, 4, 6, 7, 9, 10] (.w 2 [10, 7, 4] (.qs [12] (.w 5 [10, 7] (.w 8 [10] (.w 11 [] (.w 13 [] (.qs [14] (.w 15 [] (.qs [16] (.w 17 [] (.qs [18] (.w 19 [] .nil))))))))))))) mixed ?_ ?_ ?_; kernel_rfl; kernel_rfl) | (with_reducible refine aWh_draw (own := true) (id := 11) (.qs [0, 1, 2, 3] (.w 4 [1] (.qs [5] (.w 6 [] .nil)))) mixed ?_ ?_ ?_; kernel_rfl; kernel_rfl) | with_reducible refine callK (c3 _ _) (fun x3 J3 hxc3 hx3 => ?_) | simp -implicitDefEqProofs (maxSteps := 2000000) (disch := first | assumption | omega) [*, ])
    replace hx3 := hx3 (s ++ [.cells [.ref 2 (s.length + 2) 0 fs.length false, .int .i64 mu, row co, row se, row ch, row cho, .int .i64 th], .cells [.nils, .int .i64 0, .nils, .nils, .nils, .nils, .int .i64 0], .cells r]) Jb (by simp)
    simp only [List.length_append, List.length_cons, List.length_nil, Nat.reduceAdd, Nat.zero_add] at hx3
    replace hF := hF.app (J' := J3)
    replace hx1 := hx1.app (J' := J3)
    replace hx2 := hx2.app (J' := J3)
    generalize Jb ++ J3 = Jc at *
    by_cases hcho : cho = []
    · subst hcho
      have c4 := fun s v => cloneL_c (l := []) (s := s) (v := v) (by simp)
      repeat' (first | with_reducible refine br_t ?_ | with_reducible refine br_f ?_ | with_reducible refine br_dec (fun _ => ?_) (fun _ => ?_) | with_reducible refine g_dec (fun _ => ?_) (fun _ => ?_) | with_reducible refine g_ndec (fun _ => ?_) (fun _ => ?_) | with_reducible refine br_not (fun _ => ?_) (fun _ => ?_) | with_reducible refine br_split (fun _ => ?_) (fun _ => ?_) | with_reducible refine g_not (fun _ => ?_) (fun _ => ?_) | with_reducible refine g_split (fun _ => ?_) (fun _ => ?_) | with_reducible refine px_dec (fun _ => ?_) (fun _ => ?_) | with_reducible refine px_ndec (fun _ => ?_) (fun _ => ?_) | with_reducible refine px_split (fun _ => ?_) (fun _ => ?_) | (with_reducible refine aWh_draw (own := true) (id := 5) (.qs [0, 1, 2, 3, 4] (.w 5 [1] (.qs [6, 7] (.w 8 [] .nil)))) mixed ?_ ?_ ?_; kernel_rfl; kernel_rfl) | (with_reducible refine aWh_draw (own := true) (id := 7) (.qs [0, 1, 3, 4, 6, 7, 9, 10] (.w 2 [10, 7, 4] (.qs [12] (.w 5 [10, 7] (.w 8 [10] (.w 11 [] (.w 13 [] (.qs [14] (.w 15 [] (.qs [16] (.w 17 [] (.qs [18] (.w 19 [] .nil))))))))))))) mixed ?_ ?_ ?_; kernel_rfl; kernel_rfl) | (with_reducible refine aWh_draw (own := true) (id := 11) (.qs [0, 1, 2, 3] (.w 4 [1] (.qs [5] (.w 6 [] .nil)))) mixed ?_ ?_ ?_; kernel_rfl; kernel_rfl) | with_reducible refine callK0 (c4 _ _) rfl (fun x hxc hx => ?_) | simp -implicitDefEqProofs (maxSteps := 2000000) (disch := first | assumption | omega) [*, ])
      have hxl := NilRow.len (P := Try.prog) (t := 24) (by kernel_rfl) hx
      repeat' (first | with_reducible refine br_t ?_ | with_reducible refine br_f ?_ | with_reducible refine br_dec (fun _ => ?_) (fun _ => ?_) | with_reducible refine g_dec (fun _ => ?_) (fun _ => ?_) | with_reducible refine g_ndec (fun _ => ?_) (fun _ => ?_) | with_reducible refine br_not (fun _ => ?_) (fun _ => ?_) | with_reducible refine br_split (fun _ => ?_) (fun _ => ?_) | with_reducible refine g_not (fun _ => ?_) (fun _ => ?_) | with_reducible refine g_split (fun _ => ?_) (fun _ => ?_) | with_reducible refine px_dec (fun _ => ?_) (fun _ => ?_) | with_reducible refine px_ndec (fun _ => ?_) (fun _ => ?_) | with_reducible refine px_split (fun _ => ?_) (fun _ => ?_) | (with_reducible refine aWh_draw (own := true) (id := 5) (.qs [0, 1, 2, 3, 4] (.w 5 [1] (.qs [6, 7] (.w 8 [] .nil)))) mixed ?_ ?_ ?_; kernel_rfl; kernel_rfl) | (with_reducible refine aWh_draw (own := true) (id := 7) (.qs [0, 1, 3, 4, 6, 7, 9, 10] (.w 2 [10, 7, 4] (.qs [12] (.w 5 [10, 7] (.w 8 [10] (.w 11 [] (.w 13 [] (.qs [14] (.w 15 [] (.qs [16] (.w 17 [] (.qs [18] (.w 19 [] .nil))))))))))))) mixed ?_ ?_ ?_; kernel_rfl; kernel_rfl) | (with_reducible refine aWh_draw (own := true) (id := 11) (.qs [0, 1, 2, 3] (.w 4 [1] (.qs [5] (.w 6 [] .nil)))) mixed ?_ ?_ ?_; kernel_rfl; kernel_rfl) | simp -implicitDefEqProofs (maxSteps := 2000000) (disch := first | assumption | omega) [*, ])
      refine aW_for (β := Unit) true 0 (fun _ _ => True) (fun k p => [(47, .int .i64 k), (48, .any), (49, .any), (50, .any), (51, .any), (5, .any), (6, .any), (52, .any), (53, .any), (54, .any), (55, .any), (56, .any), (57, .any), (58, .any)]) (fun _ _ => s ++ (.cells [.ref 2 (s.length + 2) 0 fs.length false, .int .i64 mu, x1, x2, x3, x, .int .i64 th] :: .cells [.nils, .int .i64 0, .nils, .nils, .nils, .nils, .int .i64 0] :: .cells r :: Jc)) (fun _ _ => v) ?_ ?_
      · exact ⟨(), trivial, by (refine Fits.of ?_ (Off.refl _ _); simp [upd_apply, upds_cons]), rfl, rfl⟩
      rintro k _ hk _
      repeat' (first | with_reducible refine br_t ?_ | with_reducible refine br_f ?_ | with_reducible refine br_dec (fun _ => ?_) (fun _ => ?_) | with_reducible refine g_dec (fun _ => ?_) (fun _ => ?_) | with_reducible refine g_ndec (fun _ => ?_) (fun _ => ?_) | with_reducible refine br_not (fun _ => ?_) (fun _ => ?_) | with_reducible refine br_split (fun _ => ?_) (fun _ => ?_) | with_reducible refine g_not (fun _ => ?_) (fun _ => ?_) | with_reducible refine g_split (fun _ => ?_) (fun _ => ?_) | with_reducible refine px_dec (fun _ => ?_) (fun _ => ?_) | with_reducible refine px_ndec (fun _ => ?_) (fun _ => ?_) | with_reducible refine px_split (fun _ => ?_) (fun _ => ?_) | (with_reducible refine aWh_draw (own := true) (id := 5) (.qs [0, 1, 2, 3, 4] (.w 5 [1] (.qs [6, 7] (.w 8 [] .nil)))) mixed ?_ ?_ ?_; kernel_rfl; kernel_rfl) | (with_reducible refine aWh_draw (own := true) (id := 7) (.qs [0, 1, 3, 4, 6, 7, 9, 10] (.w 2 [10, 7, 4] (.qs [12] (.w 5 [10, 7] (.w 8 [10] (.w 11 [] (.w 13 [] (.qs [14] (.w 15 [] (.qs [16] (.w 17 [] (.qs [18] (.w 19 [] .nil))))))))))))) mixed ?_ ?_ ?_; kernel_rfl; kernel_rfl) | (with_reducible refine aWh_draw (own := true) (id := 11) (.qs [0, 1, 2, 3] (.w 4 [1] (.qs [5] (.w 6 [] .nil)))) mixed ?_ ?_ ?_; kernel_rfl; kernel_rfl) | simp -implicitDefEqProofs (maxSteps := 2000000) (disch := first | assumption | omega) [*, ])
      all_goals first | (exfalso; omega) | skip
      exact ⟨rfl, _, _, r, Jc, [], x1, x2, x3, x, (by rw [List.append_nil]), rfl, hF, hx1, hx2, hx3, .inl ⟨rfl, rfl, hx⟩⟩
    · have c4 := fun s v => cloneL_c (l := cho) (s := s) (v := v) (by omega)
      repeat' (first | with_reducible refine br_t ?_ | with_reducible refine br_f ?_ | with_reducible refine br_dec (fun _ => ?_) (fun _ => ?_) | with_reducible refine g_dec (fun _ => ?_) (fun _ => ?_) | with_reducible refine g_ndec (fun _ => ?_) (fun _ => ?_) | with_reducible refine br_not (fun _ => ?_) (fun _ => ?_) | with_reducible refine br_split (fun _ => ?_) (fun _ => ?_) | with_reducible refine g_not (fun _ => ?_) (fun _ => ?_) | with_reducible refine g_split (fun _ => ?_) (fun _ => ?_) | with_reducible refine px_dec (fun _ => ?_) (fun _ => ?_) | with_reducible refine px_ndec (fun _ => ?_) (fun _ => ?_) | with_reducible refine px_split (fun _ => ?_) (fun _ => ?_) | (with_reducible refine aWh_draw (own := true) (id := 5) (.qs [0, 1, 2, 3, 4] (.w 5 [1] (.qs [6, 7] (.w 8 [] .nil)))) mixed ?_ ?_ ?_; kernel_rfl; kernel_rfl) | (with_reducible refine aWh_draw (own := true) (id := 7) (.qs [0, 1, 3, 4, 6, 7, 9, 10] (.w 2 [10, 7, 4] (.qs [12] (.w 5 [10, 7] (.w 8 [10] (.w 11 [] (.w 13 [] (.qs [14] (.w 15 [] (.qs [16] (.w 17 [] (.qs [18] (.w 19 [] .nil))))))))))))) mixed ?_ ?_ ?_; kernel_rfl; kernel_rfl) | (with_reducible refine aWh_draw (own := true) (id := 11) (.qs [0, 1, 2, 3] (.w 4 [1] (.qs [5] (.w 6 [] .nil)))) mixed ?_ ?_ ?_; kernel_rfl; kernel_rfl) | with_reducible refine callK1 (c4 _ _) hcho ?_ | simp -implicitDefEqProofs (maxSteps := 2000000) (disch := first | assumption | omega) [*, ])
      refine aW_for (β := List LV × List AObj) true cho.length (fun k p => ListsO (s.length + (Jc.length + 4)) p.2 cho k p.1) (fun k p => [(47, .int .i64 k), (48, .any), (49, .any), (50, .any), (51, .any), (5, .any), (6, .any), (52, .any), (53, .any), (54, .any), (55, .any), (56, .any), (57, .any), (58, .any)]) (fun _ p => s ++ (.cells [.ref 2 (s.length + 2) 0 fs.length false, .int .i64 mu, x1, x2, x3, .ref 1 (s.length + (Jc.length + 3)) 0 cho.length false, .int .i64 th] :: .cells [.nils, .int .i64 0, .nils, .nils, .nils, .nils, .int .i64 0] :: .cells r :: (Jc ++ (.cells p.1 :: p.2)))) (fun _ p => v) ?_ ?_
      · exact ⟨(rowCs cho, []), ListsO.init _ _ _, by (refine Fits.of ?_ (Off.refl _ _); simp [upd_apply, upds_cons]), rfl, rfl⟩
      rintro k ⟨rO, J4⟩ hk hL
      simp only at hL
      by_cases hkl : k < cho.length
      · obtain ⟨y0, e2, _, e4⟩ := hL.2 k hkl
        have e4 := e4 (Nat.le_refl k)
        subst e4
        have hrO := hL.1
        have hle2 : k + 1 ≤ cho.length := by omega
        have hc := fun s v => cloneI_c (l := nth cho k) (s := s) (v := v) (by have := hrl k hkl; unfold maxLen; omega) (by have := hrl k hkl; omega)
        repeat' (first | with_reducible refine br_t ?_ | with_reducible refine br_f ?_ | with_reducible refine br_dec (fun _ => ?_) (fun _ => ?_) | with_reducible refine g_dec (fun _ => ?_) (fun _ => ?_) | with_reducible refine g_ndec (fun _ => ?_) (fun _ => ?_) | with_reducible refine br_not (fun _ => ?_) (fun _ => ?_) | with_reducible refine br_split (fun _ => ?_) (fun _ => ?_) | with_reducible refine g_not (fun _ => ?_) (fun _ => ?_) | with_reducible refine g_split (fun _ => ?_) (fun _ => ?_) | with_reducible refine px_dec (fun _ => ?_) (fun _ => ?_) | with_reducible refine px_ndec (fun _ => ?_) (fun _ => ?_) | with_reducible refine px_split (fun _ => ?_) (fun _ => ?_) | (with_reducible refine aWh_draw (own := true) (id := 5) (.qs [0, 1, 2, 3, 4] (.w 5 [1] (.qs [6, 7] (.w 8 [] .nil)))) mixed ?_ ?_ ?_; kernel_rfl; kernel_rfl) | (with_reducible refine aWh_draw (own := true) (id := 7) (.qs [0, 1, 3, 4, 6, 7, 9, 10] (.w 2 [10, 7, 4] (.qs [12] (.w 5 [10, 7] (.w 8 [10] (.w 11 [] (.w 13 [] (.qs [14] (.w 15 [] (.qs [16] (.w 17 [] (.qs [18] (.w 19 [] .nil))))))))))))) mixed ?_ ?_ ?_; kernel_rfl; kernel_rfl) | (with_reducible refine aWh_draw (own := true) (id := 11) (.qs [0, 1, 2, 3] (.w 4 [1] (.qs [5] (.w 6 [] .nil)))) mixed ?_ ?_ ?_; kernel_rfl; kernel_rfl) | with_reducible refine callK (hc _ _) (fun y J5 hyc hy => ?_) | simp -implicitDefEqProofs (maxSteps := 2000000) (disch := first | assumption | omega) [*, ])
        have hy := hy (s ++ (.cells [.ref 2 (s.length + 2) 0 fs.length false, .int .i64 mu, x1, x2, x3, .ref 1 (s.length + (Jc.length + 3)) 0 cho.length false, .int .i64 th] :: .cells [.nils, .int .i64 0, .nils, .nils, .nils, .nils, .int .i64 0] :: .cells r :: (Jc ++ [.cells rO]))) J4 (by simp)
        simp only [List.length_append, List.length_cons, List.length_nil, Nat.zero_add, Nat.add_assoc] at hy
        exact ⟨hkl, (rO.set k y, J4 ++ J5), hL.step hkl (by simpa using hy), by (refine Fits.of ?_ ?_; rotate_left; (repeat (first | with_reducible exact Off.refl _ _ | refine Off.upd rfl ?_ | refine Off.updO rfl ?_ | refine Off.upds rfl ?_)); simp [upd_apply, upds_cons]), by simp, rfl⟩
      · have : k = cho.length := by omega
        subst this
        repeat' (first | with_reducible refine br_t ?_ | with_reducible refine br_f ?_ | with_reducible refine br_dec (fun _ => ?_) (fun _ => ?_) | with_reducible refine g_dec (fun _ => ?_) (fun _ => ?_) | with_reducible refine g_ndec (fun _ => ?_) (fun _ => ?_) | with_reducible refine br_not (fun _ => ?_) (fun _ => ?_) | with_reducible refine br_split (fun _ => ?_) (fun _ => ?_) | with_reducible refine g_not (fun _ => ?_) (fun _ => ?_) | with_reducible refine g_split (fun _ => ?_) (fun _ => ?_) | with_reducible refine px_dec (fun _ => ?_) (fun _ => ?_) | with_reducible refine px_ndec (fun _ => ?_) (fun _ => ?_) | with_reducible refine px_split (fun _ => ?_) (fun _ => ?_) | (with_reducible refine aWh_draw (own := true) (id := 5) (.qs [0, 1, 2, 3, 4] (.w 5 [1] (.qs [6, 7] (.w 8 [] .nil)))) mixed ?_ ?_ ?_; kernel_rfl; kernel_rfl) | (with_reducible refine aWh_draw (own := true) (id := 7) (.qs [0, 1, 3, 4, 6, 7, 9, 10] (.w 2 [10, 7, 4] (.qs [12] (.w 5 [10, 7] (.w 8 [10] (.w 11 [] (.w 13 [] (.qs [14] (.w 15 [] (.qs [16] (.w 17 [] (.qs [18] (.w 19 [] .nil))))))))))))) mixed ?_ ?_ ?_; kernel_rfl; kernel_rfl) | (with_reducible refine aWh_draw (own := true) (id := 11) (.qs [0, 1, 2, 3] (.w 4 [1] (.qs [5] (.w 6 [] .nil)))) mixed ?_ ?_ ?_; kernel_rfl; kernel_rfl) | simp -implicitDefEqProofs (maxSteps := 2000000) (disch := first | assumption | omega) [*, ])
        exact ⟨rfl, _, _, r, Jc, _, x1, x2, x3, _, rfl, rfl, hF, hx1, hx2, hx3, .inr ⟨hcho, rO, J4, rfl, rfl, hL⟩⟩
end Go.Hb
end

