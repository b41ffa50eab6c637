/-
  A layer for reasoning about the program's calls, and contracts of its functions (S). CONDITIONS: none; each theorem bears its own.
-/
import Derived.Test.YtcpmmldgimhppaaGreatA
import Derived.Test.YtcpmmldgimhppaaGreatL8
import Derived.Test.YtcpmmldgimhppaaGreatP
import Derived.Test.YtcpmmldgimhppaaGreatR
import Derived.Test.YtcpmmldgimhppaaGreatL9
set_option linter.unusedVariables false
set_option linter.unusedSimpArgs false
section
namespace Go.Hb
open Go Go.Proofs Go.RowKit
set_option maxRecDepth 100000
set_option maxHeartbeats 800000
attribute [-simp] aC aL aOper aThen aInBlock aIf aPlan aAppend aLen aIndexAddr aSlice aCells aBounds lBr aq initT aev aAppendOwn aAppendNil aAppendNew aAppendRef LV.cells LV.cellsOk getElem?_pos getElem?_neg
theorem ins_ne {x y : Ins} (h : x ≠ y) : ¬ (x.op = y.op ∧ x.a = y.a) := fun ⟨h1, h2⟩ => h (by cases x; cases y; simp_all)

theorem equalI_p {a b : List Int} (ha : a.length ≤ 9223372036854775807) : PureE Tryz.prog 48 [row a, row b] (.bool (decide (a = b))) := by
  refine .of fun s v => ?_
  refine aCalls_go Tryz.func48 rfl (by decide) Tryz.ntmps48 (by simp) false ?_
  have hres : Tryz.f48.results = #[.tmp 4] := rfl
  by_cases hl : a.length = b.length
  · repeat' (first | with_reducible refine br_t ?_ | with_reducible refine br_f ?_ | with_reducible refine br_dec (fun _ => ?_) (fun _ => ?_) | with_reducible refine g_dec (fun _ => ?_) (fun _ => ?_) | with_reducible refine g_ndec (fun _ => ?_) (fun _ => ?_) | with_reducible refine br_not (fun _ => ?_) (fun _ => ?_) | with_reducible refine br_split (fun _ => ?_) (fun _ => ?_) | with_reducible refine g_not (fun _ => ?_) (fun _ => ?_) | with_reducible refine g_split (fun _ => ?_) (fun _ => ?_) | with_reducible refine px_dec (fun _ => ?_) (fun _ => ?_) | with_reducible refine px_ndec (fun _ => ?_) (fun _ => ?_) | with_reducible refine px_split (fun _ => ?_) (fun _ => ?_) | (with_reducible refine aWh_draw (own := false) (id := 6) (.qs [0, 1, 2, 3, 4, 5, 6, 7, 8] .nil) mixed ?_ ?_ ?_; kernel_rfl; kernel_rfl) | simp -implicitDefEqProofs (maxSteps := 2000000) (disch := first | assumption | omega) [*, ])
    refine aW_for (β := Unit) false a.length (fun k _ => a.take k = b.take k) (fun k _ => [(13, .int .i64 k), (14, .any), (15, .any), (5, .any), (16, .any), (17, .any), (18, .any), (19, .any), (20, .any), (21, .any), (22, .any), (23, .any), (24, .any), (4, .any), (25, .any)]) (fun _ _ => s) (fun _ _ => v) ?_ ?_
    · exact ⟨(), by simp, by (refine Fits.of ?_ (Off.refl _ _); simp [upd_apply, upds_cons]), rfl, rfl⟩
    rintro k _ hk hI
    by_cases hlt : k < a.length
    · have hlb : k < b.length := by omega
      by_cases hn : nth a k = nth b k
      · repeat' (first | with_reducible refine br_t ?_ | with_reducible refine br_f ?_ | with_reducible refine br_dec (fun _ => ?_) (fun _ => ?_) | with_reducible refine g_dec (fun _ => ?_) (fun _ => ?_) | with_reducible refine g_ndec (fun _ => ?_) (fun _ => ?_) | with_reducible refine br_not (fun _ => ?_) (fun _ => ?_) | with_reducible refine br_split (fun _ => ?_) (fun _ => ?_) | with_reducible refine g_not (fun _ => ?_) (fun _ => ?_) | with_reducible refine g_split (fun _ => ?_) (fun _ => ?_) | with_reducible refine px_dec (fun _ => ?_) (fun _ => ?_) | with_reducible refine px_ndec (fun _ => ?_) (fun _ => ?_) | with_reducible refine px_split (fun _ => ?_) (fun _ => ?_) | (with_reducible refine aWh_draw (own := false) (id := 6) (.qs [0, 1, 2, 3, 4, 5, 6, 7, 8] .nil) mixed ?_ ?_ ?_; kernel_rfl; kernel_rfl) | simp -implicitDefEqProofs (maxSteps := 2000000) (disch := first | assumption | omega) [*, ])
        exact ⟨hlt, (), by show a.take (k + 1) = b.take (k + 1); rw [take_succ_nth hlt, take_succ_nth hlb, hI, hn], by (refine Fits.of ?_ ?_; rotate_left; (repeat (first | with_reducible exact Off.refl _ _ | refine Off.upd rfl ?_ | refine Off.updO rfl ?_ | refine Off.upds rfl ?_)); simp [upd_apply, upds_cons]), rfl, rfl⟩
      · have hd : a ≠ b := by rintro rfl; exact hn rfl
        repeat' (first | with_reducible refine br_t ?_ | with_reducible refine br_f ?_ | with_reducible refine br_dec (fun _ => ?_) (fun _ => ?_) | with_reducible refine g_dec (fun _ => ?_) (fun _ => ?_) | with_reducible refine g_ndec (fun _ => ?_) (fun _ => ?_) | with_reducible refine br_not (fun _ => ?_) (fun _ => ?_) | with_reducible refine br_split (fun _ => ?_) (fun _ => ?_) | with_reducible refine g_not (fun _ => ?_) (fun _ => ?_) | with_reducible refine g_split (fun _ => ?_) (fun _ => ?_) | with_reducible refine px_dec (fun _ => ?_) (fun _ => ?_) | with_reducible refine px_ndec (fun _ => ?_) (fun _ => ?_) | with_reducible refine px_split (fun _ => ?_) (fun _ => ?_) | (with_reducible refine aWh_draw (own := false) (id := 6) (.qs [0, 1, 2, 3, 4, 5, 6, 7, 8] .nil) mixed ?_ ?_ ?_; kernel_rfl; kernel_rfl) | simp -implicitDefEqProofs (maxSteps := 2000000) (disch := first | assumption | omega) [*, ])
        all_goals exact EndsE.eq (by simp [hd]) (by simp)
    · have : k = a.length := by omega
      subst this
      have hd : a = b := by rw [List.take_of_length_le (Nat.le_refl _), List.take_of_length_le (by omega)] at hI; exact hI
      repeat' (first | with_reducible refine br_t ?_ | with_reducible refine br_f ?_ | with_reducible refine br_dec (fun _ => ?_) (fun _ => ?_) | with_reducible refine g_dec (fun _ => ?_) (fun _ => ?_) | with_reducible refine g_ndec (fun _ => ?_) (fun _ => ?_) | with_reducible refine br_not (fun _ => ?_) (fun _ => ?_) | with_reducible refine br_split (fun _ => ?_) (fun _ => ?_) | with_reducible refine g_not (fun _ => ?_) (fun _ => ?_) | with_reducible refine g_split (fun _ => ?_) (fun _ => ?_) | with_reducible refine px_dec (fun _ => ?_) (fun _ => ?_) | with_reducible refine px_ndec (fun _ => ?_) (fun _ => ?_) | with_reducible refine px_split (fun _ => ?_) (fun _ => ?_) | (with_reducible refine aWh_draw (own := false) (id := 6) (.qs [0, 1, 2, 3, 4, 5, 6, 7, 8] .nil) mixed ?_ ?_ ?_; kernel_rfl; kernel_rfl) | simp -implicitDefEqProofs (maxSteps := 2000000) (disch := first | assumption | omega) [*, ])
      all_goals exact EndsE.eq (by simp [hd]) (by simp)
  · have hd : a ≠ b := by rintro rfl; exact hl rfl
    have hl' : (a.length : Int) ≠ b.length := by omega
    repeat' (first | with_reducible refine br_t ?_ | with_reducible refine br_f ?_ | with_reducible refine br_dec (fun _ => ?_) (fun _ => ?_) | with_reducible refine g_dec (fun _ => ?_) (fun _ => ?_) | with_reducible refine g_ndec (fun _ => ?_) (fun _ => ?_) | with_reducible refine br_not (fun _ => ?_) (fun _ => ?_) | with_reducible refine br_split (fun _ => ?_) (fun _ => ?_) | with_reducible refine g_not (fun _ => ?_) (fun _ => ?_) | with_reducible refine g_split (fun _ => ?_) (fun _ => ?_) | with_reducible refine px_dec (fun _ => ?_) (fun _ => ?_) | with_reducible refine px_ndec (fun _ => ?_) (fun _ => ?_) | with_reducible refine px_split (fun _ => ?_) (fun _ => ?_) | (with_reducible refine aWh_draw (own := false) (id := 6) (.qs [0, 1, 2, 3, 4, 5, 6, 7, 8] .nil) mixed ?_ ?_ ?_; kernel_rfl; kernel_rfl) | simp -implicitDefEqProofs (maxSteps := 2000000) (disch := first | assumption | omega) [*, ])
    all_goals exact EndsE.eq (by simp [hd]) (by simp)

theorem rsameI_p {a b : List Int} (ha : a.length ≤ 9223372036854775807) : PureE Tryz.prog 34 [row a, row b] (.bool (decide (a = b))) := by
  refine .of fun s v => ?_
  refine aCalls_go Tryz.func34 rfl (by decide) Tryz.ntmps34 (by simp) false ?_
  have hres : Tryz.f34.results = #[.tmp 4] := rfl
  by_cases hl : a.length = b.length
  · repeat' (first | with_reducible refine br_t ?_ | with_reducible refine br_f ?_ | with_reducible refine br_dec (fun _ => ?_) (fun _ => ?_) | with_reducible refine g_dec (fun _ => ?_) (fun _ => ?_) | with_reducible refine g_ndec (fun _ => ?_) (fun _ => ?_) | with_reducible refine br_not (fun _ => ?_) (fun _ => ?_) | with_reducible refine br_split (fun _ => ?_) (fun _ => ?_) | with_reducible refine g_not (fun _ => ?_) (fun _ => ?_) | with_reducible refine g_split (fun _ => ?_) (fun _ => ?_) | with_reducible refine px_dec (fun _ => ?_) (fun _ => ?_) | with_reducible refine px_ndec (fun _ => ?_) (fun _ => ?_) | with_reducible refine px_split (fun _ => ?_) (fun _ => ?_) | (with_reducible refine aWh_draw (own := false) (id := 6) (.qs [0, 1, 2, 3, 4, 5, 6, 7, 8] .nil) mixed ?_ ?_ ?_; kernel_rfl; kernel_rfl) | simp -implicitDefEqProofs (maxSteps := 2000000) (disch := first | assumption | omega) [*, ])
    refine aW_for (β := Unit) false a.length (fun k _ => a.take k = b.take k) (fun k _ => [(5, .int .i64 k), (11, .any), (12, .any), (13, .any), (14, .any), (17, .any), (18, .any), (19, .any), (20, .any), (21, .any), (22, .any), (23, .any), (24, .any), (25, .any), (4, .any), (15, .any), (16, .any)]) (fun _ _ => s) (fun _ _ => v) ?_ ?_
    · exact ⟨(), by simp, by (refine Fits.of ?_ (Off.refl _ _); simp [upd_apply, upds_cons]), rfl, rfl⟩
    rintro k _ hk hI
    by_cases hlt : k < a.length
    · have hlb : k < b.length := by omega
      by_cases hn : nth a k = nth b k
      · repeat' (first | with_reducible refine br_t ?_ | with_reducible refine br_f ?_ | with_reducible refine br_dec (fun _ => ?_) (fun _ => ?_) | with_reducible refine g_dec (fun _ => ?_) (fun _ => ?_) | with_reducible refine g_ndec (fun _ => ?_) (fun _ => ?_) | with_reducible refine br_not (fun _ => ?_) (fun _ => ?_) | with_reducible refine br_split (fun _ => ?_) (fun _ => ?_) | with_reducible refine g_not (fun _ => ?_) (fun _ => ?_) | with_reducible refine g_split (fun _ => ?_) (fun _ => ?_) | with_reducible refine px_dec (fun _ => ?_) (fun _ => ?_) | with_reducible refine px_ndec (fun _ => ?_) (fun _ => ?_) | with_reducible refine px_split (fun _ => ?_) (fun _ => ?_) | (with_reducible refine aWh_draw (own := false) (id := 6) (.qs [0, 1, 2, 3, 4, 5, 6, 7, 8] .nil) mixed ?_ ?_ ?_; kernel_rfl; kernel_rfl) | simp -implicitDefEqProofs (maxSteps := 2000000) (disch := first | assumption | omega) [*, ])
        exact ⟨hlt, (), by show a.take (k + 1) = b.take (k + 1); rw [take_succ_nth hlt, take_succ_nth hlb, hI, hn], by (refine Fits.of ?_ ?_; rotate_left; (repeat (first | with_reducible exact Off.refl _ _ | refine Off.upd rfl ?_ | refine Off.updO rfl ?_ | refine Off.upds rfl ?_)); simp [upd_apply, upds_cons]), rfl, rfl⟩
      · have hd : a ≠ b := by rintro rfl; exact hn rfl
        repeat' (first | with_reducible refine br_t ?_ | with_reducible refine br_f ?_ | with_reducible refine br_dec (fun _ => ?_) (fun _ => ?_) | with_reducible refine g_dec (fun _ => ?_) (fun _ => ?_) | with_reducible refine g_ndec (fun _ => ?_) (fun _ => ?_) | with_reducible refine br_not (fun _ => ?_) (fun _ => ?_) | with_reducible refine br_split (fun _ => ?_) (fun _ => ?_) | with_reducible refine g_not (fun _ => ?_) (fun _ => ?_) | with_reducible refine g_split (fun _ => ?_) (fun _ => ?_) | with_reducible refine px_dec (fun _ => ?_) (fun _ => ?_) | with_reducible refine px_ndec (fun _ => ?_) (fun _ => ?_) | with_reducible refine px_split (fun _ => ?_) (fun _ => ?_) | (with_reducible refine aWh_draw (own := false) (id := 6) (.qs [0, 1, 2, 3, 4, 5, 6, 7, 8] .nil) mixed ?_ ?_ ?_; kernel_rfl; kernel_rfl) | simp -implicitDefEqProofs (maxSteps := 2000000) (disch := first | assumption | omega) [*, ])
        all_goals exact EndsE.eq (by simp [hd]) (by simp)
    · have : k = a.length := by omega
      subst this
      have hd : a = b := by rw [List.take_of_length_le (Nat.le_refl _), List.take_of_length_le (by omega)] at hI; exact hI
      repeat' (first | with_reducible refine br_t ?_ | with_reducible refine br_f ?_ | with_reducible refine br_dec (fun _ => ?_) (fun _ => ?_) | with_reducible refine g_dec (fun _ => ?_) (fun _ => ?_) | with_reducible refine g_ndec (fun _ => ?_) (fun _ => ?_) | with_reducible refine br_not (fun _ => ?_) (fun _ => ?_) | with_reducible refine br_split (fun _ => ?_) (fun _ => ?_) | with_reducible refine g_not (fun _ => ?_) (fun _ => ?_) | with_reducible refine g_split (fun _ => ?_) (fun _ => ?_) | with_reducible refine px_dec (fun _ => ?_) (fun _ => ?_) | with_reducible refine px_ndec (fun _ => ?_) (fun _ => ?_) | with_reducible refine px_split (fun _ => ?_) (fun _ => ?_) | (with_reducible refine aWh_draw (own := false) (id := 6) (.qs [0, 1, 2, 3, 4, 5, 6, 7, 8] .nil) mixed ?_ ?_ ?_; kernel_rfl; kernel_rfl) | simp -implicitDefEqProofs (maxSteps := 2000000) (disch := first | assumption | omega) [*, ])
      all_goals exact EndsE.eq (by simp [hd]) (by simp)
  · have hd : a ≠ b := by rintro rfl; exact hl rfl
    have hl' : (a.length : Int) ≠ b.length := by omega
    repeat' (first | with_reducible refine br_t ?_ | with_reducible refine br_f ?_ | with_reducible refine br_dec (fun _ => ?_) (fun _ => ?_) | with_reducible refine g_dec (fun _ => ?_) (fun _ => ?_) | with_reducible refine g_ndec (fun _ => ?_) (fun _ => ?_) | with_reducible refine br_not (fun _ => ?_) (fun _ => ?_) | with_reducible refine br_split (fun _ => ?_) (fun _ => ?_) | with_reducible refine g_not (fun _ => ?_) (fun _ => ?_) | with_reducible refine g_split (fun _ => ?_) (fun _ => ?_) | with_reducible refine px_dec (fun _ => ?_) (fun _ => ?_) | with_reducible refine px_ndec (fun _ => ?_) (fun _ => ?_) | with_reducible refine px_split (fun _ => ?_) (fun _ => ?_) | (with_reducible refine aWh_draw (own := false) (id := 6) (.qs [0, 1, 2, 3, 4, 5, 6, 7, 8] .nil) mixed ?_ ?_ ?_; kernel_rfl; kernel_rfl) | simp -implicitDefEqProofs (maxSteps := 2000000) (disch := first | assumption | omega) [*, ])
    all_goals exact EndsE.eq (by simp [hd]) (by simp)

theorem equalIns_p {a b : List Ins} (ha : a.length ≤ 9223372036854775807) : PureE Tryz.prog 47 [row a, row b] (.bool (decide (a = b))) := by
  refine .of fun s v => ?_
  refine aCalls_go Tryz.func47 rfl (by decide) Tryz.ntmps47 (by simp) false ?_
  have hres : Tryz.f47.results = #[.tmp 4] := rfl
  by_cases hl : a.length = b.length
  · repeat' (first | with_reducible refine br_t ?_ | with_reducible refine br_f ?_ | with_reducible refine br_dec (fun _ => ?_) (fun _ => ?_) | with_reducible refine g_dec (fun _ => ?_) (fun _ => ?_) | with_reducible refine g_ndec (fun _ => ?_) (fun _ => ?_) | with_reducible refine br_not (fun _ => ?_) (fun _ => ?_) | with_reducible refine br_split (fun _ => ?_) (fun _ => ?_) | with_reducible refine g_not (fun _ => ?_) (fun _ => ?_) | with_reducible refine g_split (fun _ => ?_) (fun _ => ?_) | with_reducible refine px_dec (fun _ => ?_) (fun _ => ?_) | with_reducible refine px_ndec (fun _ => ?_) (fun _ => ?_) | with_reducible refine px_split (fun _ => ?_) (fun _ => ?_) | (with_reducible refine aWh_draw (own := false) (id := 6) (.qs [0, 1, 2, 3, 4, 5, 6, 7, 8] .nil) mixed ?_ ?_ ?_; kernel_rfl; kernel_rfl) | simp -implicitDefEqProofs (maxSteps := 2000000) (disch := first | assumption | omega) [*, ])
    refine aW_for (β := Unit) false a.length (fun k _ => a.take k = b.take k) (fun k _ => [(13, .int .i64 k), (14, .any), (15, .any), (5, .any), (16, .any), (17, .any), (18, .any), (19, .any), (20, .any), (21, .any), (22, .any), (23, .any), (24, .any), (4, .any), (25, .any)]) (fun _ _ => s) (fun _ _ => v) ?_ ?_
    · exact ⟨(), by simp, by (refine Fits.of ?_ (Off.refl _ _); simp [upd_apply, upds_cons]), rfl, rfl⟩
    rintro k _ hk hI
    by_cases hlt : k < a.length
    · have hlb : k < b.length := by omega
      by_cases hn : nth a k = nth b k
      · repeat' (first | with_reducible refine br_t ?_ | with_reducible refine br_f ?_ | with_reducible refine br_dec (fun _ => ?_) (fun _ => ?_) | with_reducible refine g_dec (fun _ => ?_) (fun _ => ?_) | with_reducible refine g_ndec (fun _ => ?_) (fun _ => ?_) | with_reducible refine br_not (fun _ => ?_) (fun _ => ?_) | with_reducible refine br_split (fun _ => ?_) (fun _ => ?_) | with_reducible refine g_not (fun _ => ?_) (fun _ => ?_) | with_reducible refine g_split (fun _ => ?_) (fun _ => ?_) | with_reducible refine px_dec (fun _ => ?_) (fun _ => ?_) | with_reducible refine px_ndec (fun _ => ?_) (fun _ => ?_) | with_reducible refine px_split (fun _ => ?_) (fun _ => ?_) | (with_reducible refine aWh_draw (own := false) (id := 6) (.qs [0, 1, 2, 3, 4, 5, 6, 7, 8] .nil) mixed ?_ ?_ ?_; kernel_rfl; kernel_rfl) | simp -implicitDefEqProofs (maxSteps := 2000000) (disch := first | assumption | omega) [*, ])
        exact ⟨hlt, (), by show a.take (k + 1) = b.take (k + 1); rw [take_succ_nth hlt, take_succ_nth hlb, hI, hn], by (refine Fits.of ?_ ?_; rotate_left; (repeat (first | with_reducible exact Off.refl _ _ | refine Off.upd rfl ?_ | refine Off.updO rfl ?_ | refine Off.upds rfl ?_)); simp [upd_apply, upds_cons]), rfl, rfl⟩
      · have hq := ins_ne hn
        have hd : a ≠ b := by rintro rfl; exact hn rfl
        repeat' (first | with_reducible refine br_t ?_ | with_reducible refine br_f ?_ | with_reducible refine br_dec (fun _ => ?_) (fun _ => ?_) | with_reducible refine g_dec (fun _ => ?_) (fun _ => ?_) | with_reducible refine g_ndec (fun _ => ?_) (fun _ => ?_) | with_reducible refine br_not (fun _ => ?_) (fun _ => ?_) | with_reducible refine br_split (fun _ => ?_) (fun _ => ?_) | with_reducible refine g_not (fun _ => ?_) (fun _ => ?_) | with_reducible refine g_split (fun _ => ?_) (fun _ => ?_) | with_reducible refine px_dec (fun _ => ?_) (fun _ => ?_) | with_reducible refine px_ndec (fun _ => ?_) (fun _ => ?_) | with_reducible refine px_split (fun _ => ?_) (fun _ => ?_) | (with_reducible refine aWh_draw (own := false) (id := 6) (.qs [0, 1, 2, 3, 4, 5, 6, 7, 8] .nil) mixed ?_ ?_ ?_; kernel_rfl; kernel_rfl) | simp -implicitDefEqProofs (maxSteps := 2000000) (disch := first | assumption | omega) [*, ])
        all_goals exact EndsE.eq (by simp [hd]) (by simp)
    · have : k = a.length := by omega
      subst this
      have hd : a = b := by rw [List.take_of_length_le (Nat.le_refl _), List.take_of_length_le (by omega)] at hI; exact hI
      repeat' (first | with_reducible refine br_t ?_ | with_reducible refine br_f ?_ | with_reducible refine br_dec (fun _ => ?_) (fun _ => ?_) | with_reducible refine g_dec (fun _ => ?_) (fun _ => ?_) | with_reducible refine g_ndec (fun _ => ?_) (fun _ => ?_) | with_reducible refine br_not (fun _ => ?_) (fun _ => ?_) | with_reducible refine br_split (fun _ => ?_) (fun _ => ?_) | with_reducible refine g_not (fun _ => ?_) (fun _ => ?_) | with_reducible refine g_split (fun _ => ?_) (fun _ => ?_) | with_reducible refine px_dec (fun _ => ?_) (fun _ => ?_) | with_reducible refine px_ndec (fun _ => ?_) (fun _ => ?_) | with_reducible refine px_split (fun _ => ?_) (fun _ => ?_) | (with_reducible refine aWh_draw (own := false) (id := 6) (.qs [0, 1, 2, 3, 4, 5, 6, 7, 8] .nil) mixed ?_ ?_ ?_; kernel_rfl; kernel_rfl) | simp -implicitDefEqProofs (maxSteps := 2000000) (disch := first | assumption | omega) [*, ])
      all_goals exact EndsE.eq (by simp [hd]) (by simp)
  · have hd : a ≠ b := by rintro rfl; exact hl rfl
    have hl' : (a.length : Int) ≠ b.length := by omega
    repeat' (first | with_reducible refine br_t ?_ | with_reducible refine br_f ?_ | with_reducible refine br_dec (fun _ => ?_) (fun _ => ?_) | with_reducible refine g_dec (fun _ => ?_) (fun _ => ?_) | with_reducible refine g_ndec (fun _ => ?_) (fun _ => ?_) | with_reducible refine br_not (fun _ => ?_) (fun _ => ?_) | with_reducible refine br_split (fun _ => ?_) (fun _ => ?_) | with_reducible refine g_not (fun _ => ?_) (fun _ => ?_) | with_reducible refine g_split (fun _ => ?_) (fun _ => ?_) | with_reducible refine px_dec (fun _ => ?_) (fun _ => ?_) | with_reducible refine px_ndec (fun _ => ?_) (fun _ => ?_) | with_reducible refine px_split (fun _ => ?_) (fun _ => ?_) | (with_reducible refine aWh_draw (own := false) (id := 6) (.qs [0, 1, 2, 3, 4, 5, 6, 7, 8] .nil) mixed ?_ ?_ ?_; kernel_rfl; kernel_rfl) | simp -implicitDefEqProofs (maxSteps := 2000000) (disch := first | assumption | omega) [*, ])
    all_goals exact EndsE.eq (by simp [hd]) (by simp)

theorem rsameL_p {a b : List (List Int)} (ha : a.length ≤ 9223372036854775807) (hr : ∀ k < a.length, (nth a k).length ≤ 9223372036854775807) : PureE Tryz.prog 35 [row a, row b] (.bool (decide (a = b))) := by
  refine .of fun s v => ?_
  refine aCalls_go Tryz.func35 rfl (by decide) Tryz.ntmps35 (by simp) false ?_
  have hres : Tryz.f35.results = #[.tmp 4] := rfl
  by_cases hl : a.length = b.length
  · repeat' (first | with_reducible refine br_t ?_ | with_reducible refine br_f ?_ | with_reducible refine br_dec (fun _ => ?_) (fun _ => ?_) | with_reducible refine g_dec (fun _ => ?_) (fun _ => ?_) | with_reducible refine g_ndec (fun _ => ?_) (fun _ => ?_) | with_reducible refine br_not (fun _ => ?_) (fun _ => ?_) | with_reducible refine br_split (fun _ => ?_) (fun _ => ?_) | with_reducible refine g_not (fun _ => ?_) (fun _ => ?_) | with_reducible refine g_split (fun _ => ?_) (fun _ => ?_) | with_reducible refine px_dec (fun _ => ?_) (fun _ => ?_) | with_reducible refine px_ndec (fun _ => ?_) (fun _ => ?_) | with_reducible refine px_split (fun _ => ?_) (fun _ => ?_) | (with_reducible refine aWh_draw (own := false) (id := 6) (.qs [0, 1, 2, 3, 4, 5, 6, 7] (.w 8 [] (.qs [9] .nil))) mixed ?_ ?_ ?_; kernel_rfl; kernel_rfl) | with_reducible refine callE (by assumption) ?_ | simp -implicitDefEqProofs (maxSteps := 2000000) (disch := first | assumption | omega) [*, ])
    refine aW_for (β := Unit) false a.length (fun k _ => a.take k = b.take k) (fun k _ => [(5, .int .i64 k), (11, .any), (12, .any), (13, .any), (14, .any), (17, .any), (18, .any), (19, .any), (20, .any), (21, .any), (22, .any), (23, .any), (24, .any), (25, .any), (26, .any), (4, .any), (15, .any), (16, .any)]) (fun _ _ => s) (fun _ _ => v) ?_ ?_
    · exact ⟨(), by simp, by (refine Fits.of ?_ (Off.refl _ _); simp [upd_apply, upds_cons]), rfl, rfl⟩
    rintro k _ hk hI
    by_cases hlt : k < a.length
    · have hlb : k < b.length := by omega
      by_cases hn : nth a k = nth b k
      · have hc := rsameI_p (a := nth b k) (b := nth b k) (by rw [← hn]; exact hr k hlt)
        simp only [decide_true] at hc
        repeat' (first | with_reducible refine br_t ?_ | with_reducible refine br_f ?_ | with_reducible refine br_dec (fun _ => ?_) (fun _ => ?_) | with_reducible refine g_dec (fun _ => ?_) (fun _ => ?_) | with_reducible refine g_ndec (fun _ => ?_) (fun _ => ?_) | with_reducible refine br_not (fun _ => ?_) (fun _ => ?_) | with_reducible refine br_split (fun _ => ?_) (fun _ => ?_) | with_reducible refine g_not (fun _ => ?_) (fun _ => ?_) | with_reducible refine g_split (fun _ => ?_) (fun _ => ?_) | with_reducible refine px_dec (fun _ => ?_) (fun _ => ?_) | with_reducible refine px_ndec (fun _ => ?_) (fun _ => ?_) | with_reducible refine px_split (fun _ => ?_) (fun _ => ?_) | (with_reducible refine aWh_draw (own := false) (id := 6) (.qs [0, 1, 2, 3, 4, 5, 6, 7] (.w 8 [] (.qs [9] .nil))) mixed ?_ ?_ ?_; kernel_rfl; kernel_rfl) | with_reducible refine callE (by assumption) ?_ | simp -implicitDefEqProofs (maxSteps := 2000000) (disch := first | assumption | omega) [*, ])
        exact ⟨hlt, (), by show a.take (k + 1) = b.take (k + 1); rw [take_succ_nth hlt, take_succ_nth hlb, hI, hn], by (refine Fits.of ?_ ?_; rotate_left; (repeat (first | with_reducible exact Off.refl _ _ | refine Off.upd rfl ?_ | refine Off.updO rfl ?_ | refine Off.upds rfl ?_)); simp [upd_apply, upds_cons]), rfl, rfl⟩
      · have hc := rsameI_p (a := nth a k) (b := nth b k) (hr k hlt)
        simp only [hn, decide_false] at hc
        have hd : a ≠ b := by rintro rfl; exact hn rfl
        repeat' (first | with_reducible refine br_t ?_ | with_reducible refine br_f ?_ | with_reducible refine br_dec (fun _ => ?_) (fun _ => ?_) | with_reducible refine g_dec (fun _ => ?_) (fun _ => ?_) | with_reducible refine g_ndec (fun _ => ?_) (fun _ => ?_) | with_reducible refine br_not (fun _ => ?_) (fun _ => ?_) | with_reducible refine br_split (fun _ => ?_) (fun _ => ?_) | with_reducible refine g_not (fun _ => ?_) (fun _ => ?_) | with_reducible refine g_split (fun _ => ?_) (fun _ => ?_) | with_reducible refine px_dec (fun _ => ?_) (fun _ => ?_) | with_reducible refine px_ndec (fun _ => ?_) (fun _ => ?_) | with_reducible refine px_split (fun _ => ?_) (fun _ => ?_) | (with_reducible refine aWh_draw (own := false) (id := 6) (.qs [0, 1, 2, 3, 4, 5, 6, 7] (.w 8 [] (.qs [9] .nil))) mixed ?_ ?_ ?_; kernel_rfl; kernel_rfl) | with_reducible refine callE (by assumption) ?_ | simp -implicitDefEqProofs (maxSteps := 2000000) (disch := first | assumption | omega) [*, ])
        all_goals exact EndsE.eq (by simp [hd]) (by simp)
    · have : k = a.length := by omega
      subst this
      have hd : a = b := by rw [List.take_of_length_le (Nat.le_refl _), List.take_of_length_le (by omega)] at hI; exact hI
      repeat' (first | with_reducible refine br_t ?_ | with_reducible refine br_f ?_ | with_reducible refine br_dec (fun _ => ?_) (fun _ => ?_) | with_reducible refine g_dec (fun _ => ?_) (fun _ => ?_) | with_reducible refine g_ndec (fun _ => ?_) (fun _ => ?_) | with_reducible refine br_not (fun _ => ?_) (fun _ => ?_) | with_reducible refine br_split (fun _ => ?_) (fun _ => ?_) | with_reducible refine g_not (fun _ => ?_) (fun _ => ?_) | with_reducible refine g_split (fun _ => ?_) (fun _ => ?_) | with_reducible refine px_dec (fun _ => ?_) (fun _ => ?_) | with_reducible refine px_ndec (fun _ => ?_) (fun _ => ?_) | with_reducible refine px_split (fun _ => ?_) (fun _ => ?_) | (with_reducible refine aWh_draw (own := false) (id := 6) (.qs [0, 1, 2, 3, 4, 5, 6, 7] (.w 8 [] (.qs [9] .nil))) mixed ?_ ?_ ?_; kernel_rfl; kernel_rfl) | with_reducible refine callE (by assumption) ?_ | simp -implicitDefEqProofs (maxSteps := 2000000) (disch := first | assumption | omega) [*, ])
      all_goals exact EndsE.eq (by simp [hd]) (by simp)
  · have hd : a ≠ b := by rintro rfl; exact hl rfl
    have hl' : (a.length : Int) ≠ b.length := by omega
    repeat' (first | with_reducible refine br_t ?_ | with_reducible refine br_f ?_ | with_reducible refine br_dec (fun _ => ?_) (fun _ => ?_) | with_reducible refine g_dec (fun _ => ?_) (fun _ => ?_) | with_reducible refine g_ndec (fun _ => ?_) (fun _ => ?_) | with_reducible refine br_not (fun _ => ?_) (fun _ => ?_) | with_reducible refine br_split (fun _ => ?_) (fun _ => ?_) | with_reducible refine g_not (fun _ => ?_) (fun _ => ?_) | with_reducible refine g_split (fun _ => ?_) (fun _ => ?_) | with_reducible refine px_dec (fun _ => ?_) (fun _ => ?_) | with_reducible refine px_ndec (fun _ => ?_) (fun _ => ?_) | with_reducible refine px_split (fun _ => ?_) (fun _ => ?_) | (with_reducible refine aWh_draw (own := false) (id := 6) (.qs [0, 1, 2, 3, 4, 5, 6, 7] (.w 8 [] (.qs [9] .nil))) mixed ?_ ?_ ?_; kernel_rfl; kernel_rfl) | with_reducible refine callE (by assumption) ?_ | simp -implicitDefEqProofs (maxSteps := 2000000) (disch := first | assumption | omega) [*, ])
    all_goals exact EndsE.eq (by simp [hd]) (by simp)
end Go.Hb
end

section
namespace Go.Hb
open Go Go.Proofs Go.RowKit
set_option maxRecDepth 100000
set_option maxHeartbeats 800000
attribute [-simp] aC aL aOper aThen aInBlock aIf aPlan aAppend aLen aIndexAddr aSlice aCells aBounds lBr aq initT aev aAppendOwn aAppendNil aAppendNew aAppendRef LV.cells LV.cellsOk getElem?_pos getElem?_neg

theorem eqfL_p {a b : List (List Int)} (ha : a.length ≤ 9223372036854775807) (hr : ∀ k < a.length, (nth a k).length ≤ 9223372036854775807) :
    PureE Tryz.prog 49 [row a, row b, .fn (.func 48) [] []] (.bool (decide (a = b))) := by
  refine .of fun s v => ?_
  refine aCalls_go Tryz.func49 rfl (by decide) Tryz.ntmps49 (by simp) false ?_
  have hres : Tryz.f49.results = #[.tmp 6] := rfl
  by_cases hl : a.length = b.length
  · repeat' (first | with_reducible refine br_t ?_ | with_reducible refine br_f ?_ | with_reducible refine br_dec (fun _ => ?_) (fun _ => ?_) | with_reducible refine g_dec (fun _ => ?_) (fun _ => ?_) | with_reducible refine g_ndec (fun _ => ?_) (fun _ => ?_) | with_reducible refine br_not (fun _ => ?_) (fun _ => ?_) | with_reducible refine br_split (fun _ => ?_) (fun _ => ?_) | with_reducible refine g_not (fun _ => ?_) (fun _ => ?_) | with_reducible refine g_split (fun _ => ?_) (fun _ => ?_) | with_reducible refine px_dec (fun _ => ?_) (fun _ => ?_) | with_reducible refine px_ndec (fun _ => ?_) (fun _ => ?_) | with_reducible refine px_split (fun _ => ?_) (fun _ => ?_) | simp -implicitDefEqProofs (maxSteps := 2000000) (disch := first | assumption | omega) [*, ])
    refine aW_for (β := Unit) false a.length (fun k _ => a.take k = b.take k) (fun k _ => [(17, .int .i64 k), (18, .any), (19, .any), (20, .any), (21, .any), (7, .any), (8, .any), (22, .any), (23, .any), (24, .any), (25, .any), (9, .any), (26, .any), (27, .any), (28, .any), (29, .any), (30, .any), (6, .any), (31, .any)]) (fun _ _ => s) (fun _ _ => v) ?_ ?_
    · exact ⟨(), by simp, by (refine Fits.of ?_ (Off.refl _ _); simp [upd_apply, upds_cons]), rfl, rfl⟩
    rintro k _ hk hI
    by_cases hlt : k < a.length
    · have hlb : k < b.length := by omega
      have hc := equalI_p (a := nth a k) (b := nth b k) (hr k hlt)
      by_cases hn : nth a k = nth b k
      · simp only [hn, decide_true] at hc
        repeat' (first | with_reducible refine br_t ?_ | with_reducible refine br_f ?_ | with_reducible refine br_dec (fun _ => ?_) (fun _ => ?_) | with_reducible refine g_dec (fun _ => ?_) (fun _ => ?_) | with_reducible refine g_ndec (fun _ => ?_) (fun _ => ?_) | with_reducible refine br_not (fun _ => ?_) (fun _ => ?_) | with_reducible refine br_split (fun _ => ?_) (fun _ => ?_) | with_reducible refine g_not (fun _ => ?_) (fun _ => ?_) | with_reducible refine g_split (fun _ => ?_) (fun _ => ?_) | with_reducible refine px_dec (fun _ => ?_) (fun _ => ?_) | with_reducible refine px_ndec (fun _ => ?_) (fun _ => ?_) | with_reducible refine px_split (fun _ => ?_) (fun _ => ?_) | with_reducible refine callE hc ?_ | simp -implicitDefEqProofs (maxSteps := 2000000) (disch := first | assumption | omega) [*, ])
        exact ⟨hlt, (), by show a.take (k + 1) = b.take (k + 1); rw [take_succ_nth hlt, take_succ_nth hlb, hI, hn], by (refine Fits.of ?_ ?_; rotate_left; (repeat (first | with_reducible exact Off.refl _ _ | refine Off.upd rfl ?_ | refine Off.updO rfl ?_ | refine Off.upds rfl ?_)); simp [upd_apply, upds_cons]), rfl, rfl⟩
      · have hd : a ≠ b := by rintro rfl; exact hn rfl
        simp only [hn, decide_false] at hc
        repeat' (first | with_reducible refine br_t ?_ | with_reducible refine br_f ?_ | with_reducible refine br_dec (fun _ => ?_) (fun _ => ?_) | with_reducible refine g_dec (fun _ => ?_) (fun _ => ?_) | with_reducible refine g_ndec (fun _ => ?_) (fun _ => ?_) | with_reducible refine br_not (fun _ => ?_) (fun _ => ?_) | with_reducible refine br_split (fun _ => ?_) (fun _ => ?_) | with_reducible refine g_not (fun _ => ?_) (fun _ => ?_) | with_reducible refine g_split (fun _ => ?_) (fun _ => ?_) | with_reducible refine px_dec (fun _ => ?_) (fun _ => ?_) | with_reducible refine px_ndec (fun _ => ?_) (fun _ => ?_) | with_reducible refine px_split (fun _ => ?_) (fun _ => ?_) | with_reducible refine callE hc ?_ | simp -implicitDefEqProofs (maxSteps := 2000000) (disch := first | assumption | omega) [*, ])
        exact EndsE.eq (by simp [hd]) (by simp)
    · have : k = a.length := by omega
      subst this
      have hd : a = b := by rw [List.take_of_length_le (Nat.le_refl _), List.take_of_length_le (by omega)] at hI; exact hI
      repeat' (first | with_reducible refine br_t ?_ | with_reducible refine br_f ?_ | with_reducible refine br_dec (fun _ => ?_) (fun _ => ?_) | with_reducible refine g_dec (fun _ => ?_) (fun _ => ?_) | with_reducible refine g_ndec (fun _ => ?_) (fun _ => ?_) | with_reducible refine br_not (fun _ => ?_) (fun _ => ?_) | with_reducible refine br_split (fun _ => ?_) (fun _ => ?_) | with_reducible refine g_not (fun _ => ?_) (fun _ => ?_) | with_reducible refine g_split (fun _ => ?_) (fun _ => ?_) | with_reducible refine px_dec (fun _ => ?_) (fun _ => ?_) | with_reducible refine px_ndec (fun _ => ?_) (fun _ => ?_) | with_reducible refine px_split (fun _ => ?_) (fun _ => ?_) | simp -implicitDefEqProofs (maxSteps := 2000000) (disch := first | assumption | omega) [*, ])
      exact EndsE.eq (by simp [hd]) (by simp)
  · have hd : a ≠ b := by rintro rfl; exact hl rfl
    have hl' : (a.length : Int) ≠ b.length := by omega
    repeat' (first | with_reducible refine br_t ?_ | with_reducible refine br_f ?_ | with_reducible refine br_dec (fun _ => ?_) (fun _ => ?_) | with_reducible refine g_dec (fun _ => ?_) (fun _ => ?_) | with_reducible refine g_ndec (fun _ => ?_) (fun _ => ?_) | with_reducible refine br_not (fun _ => ?_) (fun _ => ?_) | with_reducible refine br_split (fun _ => ?_) (fun _ => ?_) | with_reducible refine g_not (fun _ => ?_) (fun _ => ?_) | with_reducible refine g_split (fun _ => ?_) (fun _ => ?_) | with_reducible refine px_dec (fun _ => ?_) (fun _ => ?_) | with_reducible refine px_ndec (fun _ => ?_) (fun _ => ?_) | with_reducible refine px_split (fun _ => ?_) (fun _ => ?_) | simp -implicitDefEqProofs (maxSteps := 2000000) (disch := first | assumption | omega) [*, ])
    exact EndsE.eq (by simp [hd]) (by simp)

theorem same1c_p {l l' : Int} {c c' : List Ins} (hc : c.length ≤ 9223372036854775807) : PureE Tryz.prog 46 [.agg [.int .i64 l, row c], .agg [.int .i64 l', row c']] (.bool (decide ((⟨l, c⟩ : Fn_) = ⟨l', c'⟩))) := by
  refine .of fun s v => ?_
  have he := equalIns_p (a := c) (b := c') hc
  refine aCalls_go Tryz.func46 rfl (by decide) Tryz.ntmps46 (by simp) false ?_
  have hres : Tryz.f46.results = #[.tmp 4] := rfl
  repeat' (first | with_reducible refine br_t ?_ | with_reducible refine br_f ?_ | with_reducible refine br_dec (fun _ => ?_) (fun _ => ?_) | with_reducible refine g_dec (fun _ => ?_) (fun _ => ?_) | with_reducible refine g_ndec (fun _ => ?_) (fun _ => ?_) | with_reducible refine br_not (fun _ => ?_) (fun _ => ?_) | with_reducible refine br_split (fun _ => ?_) (fun _ => ?_) | with_reducible refine g_not (fun _ => ?_) (fun _ => ?_) | with_reducible refine g_split (fun _ => ?_) (fun _ => ?_) | with_reducible refine px_dec (fun _ => ?_) (fun _ => ?_) | with_reducible refine px_ndec (fun _ => ?_) (fun _ => ?_) | with_reducible refine px_split (fun _ => ?_) (fun _ => ?_) | with_reducible refine callE he ?_ | simp -implicitDefEqProofs (maxSteps := 2000000) (disch := first | assumption | omega) [*, ])
  all_goals (first | (exfalso; omega) | ((try subst_vars); (first | refine EndsE.eq ?_ (by simp) | refine EndsE.eqat ?_ (by simp)); (first | with_reducible rfl | (simp [*, Fn_.mk.injEq]; done) | (simp [*, Fn_.mk.injEq]; omega) | (simp only [LV.bool.injEq]; rw [Bool.eq_iff_iff]; simp [*, Fn_.mk.injEq]; done) | (simp only [LV.bool.injEq]; rw [Bool.eq_iff_iff]; simp [*, Fn_.mk.injEq]; omega) | (simp only [LV.bool.injEq]; rw [Bool.eq_iff_iff]; simp (disch := omega) only [if_pos, if_neg, if_true, if_false, *, Fn_.mk.injEq]; simp <;> omega) | (simp only [LV.bool.injEq, Bool.and_eq_false_imp, Bool.and_eq_true, decide_eq_true_eq]; intros; exfalso; omega) | (simp only [LV.bool.injEq, Bool.and_eq_false_imp, Bool.and_eq_true, decide_eq_true_eq]; intros; simp_all; done))))

theorem eqfF_p {a b : List Fn_} (ha : a.length ≤ 9223372036854775807) (hr : ∀ k < a.length, (nth a k).code.length ≤ 9223372036854775807) :
    PureE Tryz.prog 45 [row a, row b, .fn (.func 46) [] []] (.bool (decide (a = b))) := by
  refine .of fun s v => ?_
  refine aCalls_go Tryz.func45 rfl (by decide) Tryz.ntmps45 (by simp) false ?_
  have hres : Tryz.f45.results = #[.tmp 6] := rfl
  by_cases hl : a.length = b.length
  · repeat' (first | with_reducible refine br_t ?_ | with_reducible refine br_f ?_ | with_reducible refine br_dec (fun _ => ?_) (fun _ => ?_) | with_reducible refine g_dec (fun _ => ?_) (fun _ => ?_) | with_reducible refine g_ndec (fun _ => ?_) (fun _ => ?_) | with_reducible refine br_not (fun _ => ?_) (fun _ => ?_) | with_reducible refine br_split (fun _ => ?_) (fun _ => ?_) | with_reducible refine g_not (fun _ => ?_) (fun _ => ?_) | with_reducible refine g_split (fun _ => ?_) (fun _ => ?_) | with_reducible refine px_dec (fun _ => ?_) (fun _ => ?_) | with_reducible refine px_ndec (fun _ => ?_) (fun _ => ?_) | with_reducible refine px_split (fun _ => ?_) (fun _ => ?_) | simp -implicitDefEqProofs (maxSteps := 2000000) (disch := first | assumption | omega) [*, ])
    refine aW_for (β := List AObj) false a.length (fun k _ => a.take k = b.take k) (fun k _ => [(17, .int .i64 k), (18, .any), (19, .any), (20, .any), (21, .any), (8, .any), (7, .any), (22, .any), (23, .any), (24, .any), (25, .any), (9, .any), (26, .any), (27, .any), (28, .any), (29, .any), (30, .any), (6, .any), (31, .any)]) (fun _ J => s ++ J) (fun _ _ => v) ?_ ?_
    · exact ⟨[], by simp, by (refine Fits.of ?_ (Off.refl _ _); simp [upd_apply, upds_cons]), by simp, rfl⟩
    rintro k J hk hI
    by_cases hlt : k < a.length
    · have hlb : k < b.length := by omega
      have hc : PureE Tryz.prog 46 [.agg [.int .i64 (nth a k).locals, row (nth a k).code], .agg [.int .i64 (nth b k).locals, row (nth b k).code]] (.bool (decide (nth a k = nth b k))) := same1c_p (hr k hlt)
      by_cases hn : nth a k = nth b k
      · simp only [hn, decide_true] at hc
        repeat' (first | with_reducible refine br_t ?_ | with_reducible refine br_f ?_ | with_reducible refine br_dec (fun _ => ?_) (fun _ => ?_) | with_reducible refine g_dec (fun _ => ?_) (fun _ => ?_) | with_reducible refine g_ndec (fun _ => ?_) (fun _ => ?_) | with_reducible refine br_not (fun _ => ?_) (fun _ => ?_) | with_reducible refine br_split (fun _ => ?_) (fun _ => ?_) | with_reducible refine g_not (fun _ => ?_) (fun _ => ?_) | with_reducible refine g_split (fun _ => ?_) (fun _ => ?_) | with_reducible refine px_dec (fun _ => ?_) (fun _ => ?_) | with_reducible refine px_ndec (fun _ => ?_) (fun _ => ?_) | with_reducible refine px_split (fun _ => ?_) (fun _ => ?_) | with_reducible refine callE hc ?_ | simp -implicitDefEqProofs (maxSteps := 2000000) (disch := first | assumption | omega) [*, ])
        exact ⟨hlt, _, by show a.take (k + 1) = b.take (k + 1); rw [take_succ_nth hlt, take_succ_nth hlb, hI, hn], by (refine Fits.of ?_ ?_; rotate_left; (repeat (first | with_reducible exact Off.refl _ _ | refine Off.upd rfl ?_ | refine Off.updO rfl ?_ | refine Off.upds rfl ?_)); simp [upd_apply, upds_cons]), rfl, rfl⟩
      · have hd : a ≠ b := by rintro rfl; exact hn rfl
        simp only [hn, decide_false] at hc
        repeat' (first | with_reducible refine br_t ?_ | with_reducible refine br_f ?_ | with_reducible refine br_dec (fun _ => ?_) (fun _ => ?_) | with_reducible refine g_dec (fun _ => ?_) (fun _ => ?_) | with_reducible refine g_ndec (fun _ => ?_) (fun _ => ?_) | with_reducible refine br_not (fun _ => ?_) (fun _ => ?_) | with_reducible refine br_split (fun _ => ?_) (fun _ => ?_) | with_reducible refine g_not (fun _ => ?_) (fun _ => ?_) | with_reducible refine g_split (fun _ => ?_) (fun _ => ?_) | with_reducible refine px_dec (fun _ => ?_) (fun _ => ?_) | with_reducible refine px_ndec (fun _ => ?_) (fun _ => ?_) | with_reducible refine px_split (fun _ => ?_) (fun _ => ?_) | with_reducible refine callE hc ?_ | simp -implicitDefEqProofs (maxSteps := 2000000) (disch := first | assumption | omega) [*, ])
        exact EndsE.eqat (by simp [hd]) (by simp)
    · have : k = a.length := by omega
      subst this
      have hd : a = b := by rw [List.take_of_length_le (Nat.le_refl _), List.take_of_length_le (by omega)] at hI; exact hI
      repeat' (first | with_reducible refine br_t ?_ | with_reducible refine br_f ?_ | with_reducible refine br_dec (fun _ => ?_) (fun _ => ?_) | with_reducible refine g_dec (fun _ => ?_) (fun _ => ?_) | with_reducible refine g_ndec (fun _ => ?_) (fun _ => ?_) | with_reducible refine br_not (fun _ => ?_) (fun _ => ?_) | with_reducible refine br_split (fun _ => ?_) (fun _ => ?_) | with_reducible refine g_not (fun _ => ?_) (fun _ => ?_) | with_reducible refine g_split (fun _ => ?_) (fun _ => ?_) | with_reducible refine px_dec (fun _ => ?_) (fun _ => ?_) | with_reducible refine px_ndec (fun _ => ?_) (fun _ => ?_) | with_reducible refine px_split (fun _ => ?_) (fun _ => ?_) | simp -implicitDefEqProofs (maxSteps := 2000000) (disch := first | assumption | omega) [*, ])
      exact EndsE.eqat (by simp [hd]) (by simp)
  · have hd : a ≠ b := by rintro rfl; exact hl rfl
    have hl' : (a.length : Int) ≠ b.length := by omega
    repeat' (first | with_reducible refine br_t ?_ | with_reducible refine br_f ?_ | with_reducible refine br_dec (fun _ => ?_) (fun _ => ?_) | with_reducible refine g_dec (fun _ => ?_) (fun _ => ?_) | with_reducible refine g_ndec (fun _ => ?_) (fun _ => ?_) | with_reducible refine br_not (fun _ => ?_) (fun _ => ?_) | with_reducible refine br_split (fun _ => ?_) (fun _ => ?_) | with_reducible refine g_not (fun _ => ?_) (fun _ => ?_) | with_reducible refine g_split (fun _ => ?_) (fun _ => ?_) | with_reducible refine px_dec (fun _ => ?_) (fun _ => ?_) | with_reducible refine px_ndec (fun _ => ?_) (fun _ => ?_) | with_reducible refine px_split (fun _ => ?_) (fun _ => ?_) | simp -implicitDefEqProofs (maxSteps := 2000000) (disch := first | assumption | omega) [*, ])
    exact EndsE.eq (by simp [hd]) (by simp)

instance : DecidableEq Prog := fun a b => decidable_of_iff (a.funcs = b.funcs ∧ a.mutexes = b.mutexes ∧ a.conds = b.conds ∧ a.semas = b.semas ∧ a.chans = b.chans ∧ a.choices = b.choices ∧ a.threads = b.threads)
  ⟨fun ⟨h1, h2, h3, h4, h5, h6, h7⟩ => by cases a; cases b; simp_all, fun h => by subst h; exact ⟨rfl, rfl, rfl, rfl, rfl, rfl, rfl⟩⟩
theorem csame_p {fs fs' : List Fn_} {mu th mu' th' : Int} {co se ch co' se' ch' : List Int} {cho cho' : List (List Int)} (hp : OkProg ⟨fs, mu, co, se, ch, cho, th⟩) :
    PureE Tryz.prog 16 [.agg [row fs, .int .i64 mu, row co, row se, row ch, row cho, .int .i64 th], .agg [row fs', .int .i64 mu', row co', row se', row ch', row cho', .int .i64 th']] (.bool (decide ((⟨fs, mu, co, se, ch, cho, th⟩ : Prog) = ⟨fs', mu', co', se', ch', cho', th'⟩))) := by
  obtain ⟨⟨h1, k1⟩, h2, ⟨h3, k3⟩, ⟨h4, k4⟩, ⟨h5, k5⟩, ⟨h6, k6⟩, h7⟩ := hp
  simp only at *
  refine .of fun s v => ?_
  have e1 := eqfF_p (a := fs) (b := fs') (by omega) (fun k hk => by have := (h1 (nth fs k) (by rw [nth_eq hk]; exact List.getElem_mem hk)).2.2; omega)
  have e2 := equalI_p (a := co) (b := co') (by omega)
  have e3 := equalI_p (a := se) (b := se') (by omega)
  have e4 := equalI_p (a := ch) (b := ch') (by omega)
  have e5 := eqfL_p (a := cho) (b := cho') (by omega) (fun k hk => by have := (h6 (nth cho k) (by rw [nth_eq hk]; exact List.getElem_mem hk)).2; omega)
  clear h1 h2 h3 h4 h5 h6 h7 k1 k3 k4 k5 k6
  refine aCalls_go Tryz.func16 rfl (by decide) Tryz.ntmps16 (by simp) false ?_
  have hres : Tryz.f16.results = #[.tmp 4] := rfl
  repeat' (first | with_reducible refine br_t ?_ | with_reducible refine br_f ?_ | with_reducible refine br_dec (fun _ => ?_) (fun _ => ?_) | with_reducible refine g_dec (fun _ => ?_) (fun _ => ?_) | with_reducible refine g_ndec (fun _ => ?_) (fun _ => ?_) | with_reducible refine br_not (fun _ => ?_) (fun _ => ?_) | with_reducible refine br_split (fun _ => ?_) (fun _ => ?_) | with_reducible refine g_not (fun _ => ?_) (fun _ => ?_) | with_reducible refine g_split (fun _ => ?_) (fun _ => ?_) | with_reducible refine px_dec (fun _ => ?_) (fun _ => ?_) | with_reducible refine px_ndec (fun _ => ?_) (fun _ => ?_) | with_reducible refine px_split (fun _ => ?_) (fun _ => ?_) | with_reducible refine callE e1 ?_ | with_reducible refine callE e2 ?_ | with_reducible refine callE e3 ?_ | with_reducible refine callE e4 ?_ | with_reducible refine callE e5 ?_ | simp -implicitDefEqProofs (maxSteps := 2000000) (disch := first | assumption | omega) [*, ])
  all_goals (first | (exfalso; omega) | ((try subst_vars); (first | refine EndsE.eq ?_ (by simp) | refine EndsE.eqat ?_ (by simp)); (first | with_reducible rfl | (simp [*, Prog.mk.injEq]; done) | (simp [*, Prog.mk.injEq]; omega) | (simp only [LV.bool.injEq]; rw [Bool.eq_iff_iff]; simp [*, Prog.mk.injEq]; done) | (simp only [LV.bool.injEq]; rw [Bool.eq_iff_iff]; simp [*, Prog.mk.injEq]; omega) | (simp only [LV.bool.injEq]; rw [Bool.eq_iff_iff]; simp (disch := omega) only [if_pos, if_neg, if_true, if_false, *, Prog.mk.injEq]; simp <;> omega) | (simp only [LV.bool.injEq, Bool.and_eq_false_imp, Bool.and_eq_true, decide_eq_true_eq]; intros; exfalso; omega) | (simp only [LV.bool.injEq, Bool.and_eq_false_imp, Bool.and_eq_true, decide_eq_true_eq]; intros; simp_all; done))))

set_option maxHeartbeats 8000000 in
theorem rsame_p {fs fs' : List Fn_} {mu th mu' th' : Int} {co se ch co' se' ch' : List Int} {cho cho' : List (List Int)} (hp : OkProg ⟨fs, mu, co, se, ch, cho, th⟩) :
    PureE Tryz.prog 11 [.agg [row fs, .int .i64 mu, row co, row se, row ch, row cho, .int .i64 th], .agg [row fs', .int .i64 mu', row co', row se', row ch', row cho', .int .i64 th']] (.bool (decide ((⟨fs, mu, co, se, ch, cho, th⟩ : Prog) = ⟨fs', mu', co', se', ch', cho', th'⟩))) := by
  obtain ⟨⟨h1, k1⟩, h2, ⟨h3, k3⟩, ⟨h4, k4⟩, ⟨h5, k5⟩, ⟨h6, k6⟩, h7⟩ := hp
  simp only at *
  refine .of fun s v => ?_
  have e2 := rsameI_p (a := co) (b := co') (by omega)
  have e3 := rsameI_p (a := se) (b := se') (by omega)
  have e4 := rsameI_p (a := ch) (b := ch') (by omega)
  have e5 := rsameL_p (a := cho) (b := cho') (by omega) (fun k hk => by have := (h6 (nth cho k) (by rw [nth_eq hk]; exact List.getElem_mem hk)).2; omega)
  have hr : ∀ k < fs.length, (nth fs k).code.length ≤ 9223372036854775807 := fun k hk => by have := (h1 (nth fs k) (by rw [nth_eq hk]; exact List.getElem_mem hk)).2.2; omega
  clear h1 h2 h3 h4 h5 h6 h7 k3 k4 k5 k6
  by_cases hl : fs.length = fs'.length
  · refine aCalls_go Tryz.func11 rfl (by decide) Tryz.ntmps11 (by simp) false ?_
    have hres : Tryz.f11.results = #[.tmp 4] := rfl
    repeat' (first | with_reducible refine br_t ?_ | with_reducible refine br_f ?_ | with_reducible refine br_dec (fun _ => ?_) (fun _ => ?_) | with_reducible refine g_dec (fun _ => ?_) (fun _ => ?_) | with_reducible refine g_ndec (fun _ => ?_) (fun _ => ?_) | with_reducible refine br_not (fun _ => ?_) (fun _ => ?_) | with_reducible refine br_split (fun _ => ?_) (fun _ => ?_) | with_reducible refine g_not (fun _ => ?_) (fun _ => ?_) | with_reducible refine g_split (fun _ => ?_) (fun _ => ?_) | with_reducible refine px_dec (fun _ => ?_) (fun _ => ?_) | with_reducible refine px_ndec (fun _ => ?_) (fun _ => ?_) | with_reducible refine px_split (fun _ => ?_) (fun _ => ?_) | (with_reducible refine aWh_draw (own := false) (id := 13) (.qs [0, 1, 2, 3, 4, 5, 6, 7, 8, 9, 10] .nil) mixed ?_ ?_ ?_; kernel_rfl; kernel_rfl) | simp -implicitDefEqProofs (maxSteps := 2000000) (disch := first | assumption | omega) [*, ])
    refine aW_for (β := List AObj) false fs.length (fun k _ => fs.take k = fs'.take k) (fun k _ => [(5, .int .i64 k), (16, .any), (17, .any), (18, .any), (19, .any), (20, .any), (23, .any), (24, .any), (25, .any), (26, .any), (27, .any), (6, .any), (28, .any), (29, .any), (30, .any), (31, .any), (32, .any), (7, .any), (33, .any), (34, .any), (35, .any), (36, .any), (37, .any), (38, .any), (39, .any), (40, .any), (41, .any), (42, .any), (43, .any), (44, .any), (45, .any), (46, .any), (4, .any), (8, .any), (47, .any), (48, .any), (49, .any), (50, .any), (51, .any), (54, .any), (55, .any), (56, .any), (57, .any), (58, .any), (59, .any), (60, .any), (61, .any), (62, .any), (63, .any), (64, .any), (52, .any), (53, .any), (21, .any), (22, .any)]) (fun _ J => s ++ (.cells [row fs, .int .i64 mu, row co, row se, row ch, row cho, .int .i64 th] :: .cells [row fs', .int .i64 mu', row co', row se', row ch', row cho', .int .i64 th'] :: J)) (fun _ _ => v) ?_ ?_
    · exact ⟨[], by simp, by (refine Fits.of ?_ (Off.refl _ _); simp [upd_apply, upds_cons]), by simp, rfl⟩
    rintro k J hk hI
    by_cases hlt : k < fs.length
    · have hlb : k < fs'.length := by omega
      have hrk := hr k hlt
      by_cases hn : nth fs k = nth fs' k
      · rw [hn] at hrk
        repeat' (first | with_reducible refine br_t ?_ | with_reducible refine br_f ?_ | with_reducible refine br_dec (fun _ => ?_) (fun _ => ?_) | with_reducible refine g_dec (fun _ => ?_) (fun _ => ?_) | with_reducible refine g_ndec (fun _ => ?_) (fun _ => ?_) | with_reducible refine br_not (fun _ => ?_) (fun _ => ?_) | with_reducible refine br_split (fun _ => ?_) (fun _ => ?_) | with_reducible refine g_not (fun _ => ?_) (fun _ => ?_) | with_reducible refine g_split (fun _ => ?_) (fun _ => ?_) | with_reducible refine px_dec (fun _ => ?_) (fun _ => ?_) | with_reducible refine px_ndec (fun _ => ?_) (fun _ => ?_) | with_reducible refine px_split (fun _ => ?_) (fun _ => ?_) | (with_reducible refine aWh_draw (own := false) (id := 13) (.qs [0, 1, 2, 3, 4, 5, 6, 7, 8, 9, 10] .nil) mixed ?_ ?_ ?_; kernel_rfl; kernel_rfl) | simp -implicitDefEqProofs (maxSteps := 2000000) (disch := first | assumption | omega) [*, ])
        refine aWl_for (β := Unit) false (nth fs' k).code.length (fun _ _ => True) (fun j _ => [(8, .int .i64 j), (47, .any), (48, .any), (49, .any), (50, .any), (51, .any), (54, .any), (55, .any), (56, .any), (57, .any), (58, .any), (59, .any), (60, .any), (61, .any), (62, .any), (63, .any), (64, .any), (4, .any), (52, .any), (53, .any)]) (fun _ _ => s ++ (.cells [row fs, .int .i64 mu, row co, row se, row ch, row cho, .int .i64 th] :: .cells [row fs', .int .i64 mu', row co', row se', row ch', row cho', .int .i64 th'] :: (J ++ [.cells [.int .i64 (nth fs' k).locals, row (nth fs' k).code], .cells [.int .i64 (nth fs' k).locals, row (nth fs' k).code]]))) (fun _ _ => v) ?_ ?_
        · exact ⟨(), trivial, by (refine Fits.of ?_ (Off.refl _ _); simp [upd_apply, upds_cons]), by simp, rfl⟩
        rintro j _ hj _
        by_cases hjl : j < (nth fs' k).code.length
        · repeat' (first | with_reducible refine br_t ?_ | with_reducible refine br_f ?_ | with_reducible refine br_dec (fun _ => ?_) (fun _ => ?_) | with_reducible refine g_dec (fun _ => ?_) (fun _ => ?_) | with_reducible refine g_ndec (fun _ => ?_) (fun _ => ?_) | with_reducible refine br_not (fun _ => ?_) (fun _ => ?_) | with_reducible refine br_split (fun _ => ?_) (fun _ => ?_) | with_reducible refine g_not (fun _ => ?_) (fun _ => ?_) | with_reducible refine g_split (fun _ => ?_) (fun _ => ?_) | with_reducible refine px_dec (fun _ => ?_) (fun _ => ?_) | with_reducible refine px_ndec (fun _ => ?_) (fun _ => ?_) | with_reducible refine px_split (fun _ => ?_) (fun _ => ?_) | (with_reducible refine aWh_draw (own := false) (id := 13) (.qs [0, 1, 2, 3, 4, 5, 6, 7, 8, 9, 10] .nil) mixed ?_ ?_ ?_; kernel_rfl; kernel_rfl) | simp -implicitDefEqProofs (maxSteps := 2000000) (disch := first | assumption | omega) [*, ])
          exact ⟨hjl, (), trivial, by (refine Fits.of ?_ ?_; rotate_left; (repeat (first | with_reducible exact Off.refl _ _ | refine Off.upd rfl ?_ | refine Off.updO rfl ?_ | refine Off.upds rfl ?_)); simp [upd_apply, upds_cons]), rfl, rfl⟩
        · have : j = (nth fs' k).code.length := by omega
          subst this
          repeat' (first | with_reducible refine br_t ?_ | with_reducible refine br_f ?_ | with_reducible refine br_dec (fun _ => ?_) (fun _ => ?_) | with_reducible refine g_dec (fun _ => ?_) (fun _ => ?_) | with_reducible refine g_ndec (fun _ => ?_) (fun _ => ?_) | with_reducible refine br_not (fun _ => ?_) (fun _ => ?_) | with_reducible refine br_split (fun _ => ?_) (fun _ => ?_) | with_reducible refine g_not (fun _ => ?_) (fun _ => ?_) | with_reducible refine g_split (fun _ => ?_) (fun _ => ?_) | with_reducible refine px_dec (fun _ => ?_) (fun _ => ?_) | with_reducible refine px_ndec (fun _ => ?_) (fun _ => ?_) | with_reducible refine px_split (fun _ => ?_) (fun _ => ?_) | (with_reducible refine aWh_draw (own := false) (id := 13) (.qs [0, 1, 2, 3, 4, 5, 6, 7, 8, 9, 10] .nil) mixed ?_ ?_ ?_; kernel_rfl; kernel_rfl) | simp -implicitDefEqProofs (maxSteps := 2000000) (disch := first | assumption | omega) [*, ])
          exact ⟨hlt, _, by show fs.take (k + 1) = fs'.take (k + 1); rw [take_succ_nth hlt, take_succ_nth hlb, hI, hn], by (refine Fits.of ?_ ?_; rotate_left; (repeat (first | with_reducible exact Off.refl _ _ | refine Off.upd rfl ?_ | refine Off.updO rfl ?_ | refine Off.upds rfl ?_)); simp [upd_apply, upds_cons]), rfl, rfl⟩
      · have hd : fs ≠ fs' := by rintro rfl; exact hn rfl
        by_cases ha : (nth fs k).locals = (nth fs' k).locals
        · by_cases hb : (nth fs k).code.length = (nth fs' k).code.length
          · repeat' (first | with_reducible refine br_t ?_ | with_reducible refine br_f ?_ | with_reducible refine br_dec (fun _ => ?_) (fun _ => ?_) | with_reducible refine g_dec (fun _ => ?_) (fun _ => ?_) | with_reducible refine g_ndec (fun _ => ?_) (fun _ => ?_) | with_reducible refine br_not (fun _ => ?_) (fun _ => ?_) | with_reducible refine br_split (fun _ => ?_) (fun _ => ?_) | with_reducible refine g_not (fun _ => ?_) (fun _ => ?_) | with_reducible refine g_split (fun _ => ?_) (fun _ => ?_) | with_reducible refine px_dec (fun _ => ?_) (fun _ => ?_) | with_reducible refine px_ndec (fun _ => ?_) (fun _ => ?_) | with_reducible refine px_split (fun _ => ?_) (fun _ => ?_) | (with_reducible refine aWh_draw (own := false) (id := 13) (.qs [0, 1, 2, 3, 4, 5, 6, 7, 8, 9, 10] .nil) mixed ?_ ?_ ?_; kernel_rfl; kernel_rfl) | simp -implicitDefEqProofs (maxSteps := 2000000) (disch := first | assumption | omega) [*, ])
            refine aWl_for (β := Unit) false (nth fs k).code.length (fun j _ => (nth fs k).code.take j = (nth fs' k).code.take j) (fun j _ => [(8, .int .i64 j), (47, .any), (48, .any), (49, .any), (50, .any), (51, .any), (54, .any), (55, .any), (56, .any), (57, .any), (58, .any), (59, .any), (60, .any), (61, .any), (62, .any), (63, .any), (64, .any), (4, .any), (52, .any), (53, .any)]) (fun _ _ => s ++ (.cells [row fs, .int .i64 mu, row co, row se, row ch, row cho, .int .i64 th] :: .cells [row fs', .int .i64 mu', row co', row se', row ch', row cho', .int .i64 th'] :: (J ++ [.cells [.int .i64 (nth fs' k).locals, row (nth fs k).code], .cells [.int .i64 (nth fs' k).locals, row (nth fs' k).code]]))) (fun _ _ => v) ?_ ?_
            · exact ⟨(), by simp, by (refine Fits.of ?_ (Off.refl _ _); simp [upd_apply, upds_cons]), by simp [ha], rfl⟩
            rintro j _ hj hJ
            by_cases hjl : j < (nth fs k).code.length
            · have hjb : j < (nth fs' k).code.length := by omega
              by_cases hq : nth (nth fs k).code j = nth (nth fs' k).code j
              · repeat' (first | with_reducible refine br_t ?_ | with_reducible refine br_f ?_ | with_reducible refine br_dec (fun _ => ?_) (fun _ => ?_) | with_reducible refine g_dec (fun _ => ?_) (fun _ => ?_) | with_reducible refine g_ndec (fun _ => ?_) (fun _ => ?_) | with_reducible refine br_not (fun _ => ?_) (fun _ => ?_) | with_reducible refine br_split (fun _ => ?_) (fun _ => ?_) | with_reducible refine g_not (fun _ => ?_) (fun _ => ?_) | with_reducible refine g_split (fun _ => ?_) (fun _ => ?_) | with_reducible refine px_dec (fun _ => ?_) (fun _ => ?_) | with_reducible refine px_ndec (fun _ => ?_) (fun _ => ?_) | with_reducible refine px_split (fun _ => ?_) (fun _ => ?_) | (with_reducible refine aWh_draw (own := false) (id := 13) (.qs [0, 1, 2, 3, 4, 5, 6, 7, 8, 9, 10] .nil) mixed ?_ ?_ ?_; kernel_rfl; kernel_rfl) | simp -implicitDefEqProofs (maxSteps := 2000000) (disch := first | assumption | omega) [*, ])
                exact ⟨hjl, (), by show (nth fs k).code.take (j + 1) = (nth fs' k).code.take (j + 1); rw [take_succ_nth hjl, take_succ_nth hjb, hJ, hq], by (refine Fits.of ?_ ?_; rotate_left; (repeat (first | with_reducible exact Off.refl _ _ | refine Off.upd rfl ?_ | refine Off.updO rfl ?_ | refine Off.upds rfl ?_)); simp [upd_apply, upds_cons]), rfl, rfl⟩
              · have hq2 := ins_ne hq
                repeat' (first | with_reducible refine br_t ?_ | with_reducible refine br_f ?_ | with_reducible refine br_dec (fun _ => ?_) (fun _ => ?_) | with_reducible refine g_dec (fun _ => ?_) (fun _ => ?_) | with_reducible refine g_ndec (fun _ => ?_) (fun _ => ?_) | with_reducible refine br_not (fun _ => ?_) (fun _ => ?_) | with_reducible refine br_split (fun _ => ?_) (fun _ => ?_) | with_reducible refine g_not (fun _ => ?_) (fun _ => ?_) | with_reducible refine g_split (fun _ => ?_) (fun _ => ?_) | with_reducible refine px_dec (fun _ => ?_) (fun _ => ?_) | with_reducible refine px_ndec (fun _ => ?_) (fun _ => ?_) | with_reducible refine px_split (fun _ => ?_) (fun _ => ?_) | (with_reducible refine aWh_draw (own := false) (id := 13) (.qs [0, 1, 2, 3, 4, 5, 6, 7, 8, 9, 10] .nil) mixed ?_ ?_ ?_; kernel_rfl; kernel_rfl) | simp -implicitDefEqProofs (maxSteps := 2000000) (disch := first | assumption | omega) [*, ])
                all_goals exact EndsE.eqat (by simp [hd]) (by simp)
            · exfalso
              have : j = (nth fs k).code.length := by omega
              subst this
              rw [List.take_of_length_le (Nat.le_refl _), List.take_of_length_le (by omega)] at hJ
              apply hn
              generalize nth fs k = x at *
              generalize nth fs' k = y at *
              cases x; cases y; simp_all
          · have hb' : ((nth fs k).code.length : Int) ≠ (nth fs' k).code.length := by omega
            repeat' (first | with_reducible refine br_t ?_ | with_reducible refine br_f ?_ | with_reducible refine br_dec (fun _ => ?_) (fun _ => ?_) | with_reducible refine g_dec (fun _ => ?_) (fun _ => ?_) | with_reducible refine g_ndec (fun _ => ?_) (fun _ => ?_) | with_reducible refine br_not (fun _ => ?_) (fun _ => ?_) | with_reducible refine br_split (fun _ => ?_) (fun _ => ?_) | with_reducible refine g_not (fun _ => ?_) (fun _ => ?_) | with_reducible refine g_split (fun _ => ?_) (fun _ => ?_) | with_reducible refine px_dec (fun _ => ?_) (fun _ => ?_) | with_reducible refine px_ndec (fun _ => ?_) (fun _ => ?_) | with_reducible refine px_split (fun _ => ?_) (fun _ => ?_) | (with_reducible refine aWh_draw (own := false) (id := 13) (.qs [0, 1, 2, 3, 4, 5, 6, 7, 8, 9, 10] .nil) mixed ?_ ?_ ?_; kernel_rfl; kernel_rfl) | simp -implicitDefEqProofs (maxSteps := 2000000) (disch := first | assumption | omega) [*, ])
            all_goals exact EndsE.eqat (by simp [hd]) (by simp)
        · repeat' (first | with_reducible refine br_t ?_ | with_reducible refine br_f ?_ | with_reducible refine br_dec (fun _ => ?_) (fun _ => ?_) | with_reducible refine g_dec (fun _ => ?_) (fun _ => ?_) | with_reducible refine g_ndec (fun _ => ?_) (fun _ => ?_) | with_reducible refine br_not (fun _ => ?_) (fun _ => ?_) | with_reducible refine br_split (fun _ => ?_) (fun _ => ?_) | with_reducible refine g_not (fun _ => ?_) (fun _ => ?_) | with_reducible refine g_split (fun _ => ?_) (fun _ => ?_) | with_reducible refine px_dec (fun _ => ?_) (fun _ => ?_) | with_reducible refine px_ndec (fun _ => ?_) (fun _ => ?_) | with_reducible refine px_split (fun _ => ?_) (fun _ => ?_) | (with_reducible refine aWh_draw (own := false) (id := 13) (.qs [0, 1, 2, 3, 4, 5, 6, 7, 8, 9, 10] .nil) mixed ?_ ?_ ?_; kernel_rfl; kernel_rfl) | simp -implicitDefEqProofs (maxSteps := 2000000) (disch := first | assumption | omega) [*, ])
          all_goals exact EndsE.eqat (by simp [hd]) (by simp)
    · have : k = fs.length := by omega
      subst this
      have hd : fs = fs' := by rw [List.take_of_length_le (Nat.le_refl _), List.take_of_length_le (by omega)] at hI; exact hI
      repeat' (first | with_reducible refine br_t ?_ | with_reducible refine br_f ?_ | with_reducible refine br_dec (fun _ => ?_) (fun _ => ?_) | with_reducible refine g_dec (fun _ => ?_) (fun _ => ?_) | with_reducible refine g_ndec (fun _ => ?_) (fun _ => ?_) | with_reducible refine br_not (fun _ => ?_) (fun _ => ?_) | with_reducible refine br_split (fun _ => ?_) (fun _ => ?_) | with_reducible refine g_not (fun _ => ?_) (fun _ => ?_) | with_reducible refine g_split (fun _ => ?_) (fun _ => ?_) | with_reducible refine px_dec (fun _ => ?_) (fun _ => ?_) | with_reducible refine px_ndec (fun _ => ?_) (fun _ => ?_) | with_reducible refine px_split (fun _ => ?_) (fun _ => ?_) | (with_reducible refine aWh_draw (own := false) (id := 13) (.qs [0, 1, 2, 3, 4, 5, 6, 7, 8, 9, 10] .nil) mixed ?_ ?_ ?_; kernel_rfl; kernel_rfl) | with_reducible refine callE e2 ?_ | with_reducible refine callE e3 ?_ | with_reducible refine callE e4 ?_ | with_reducible refine callE e5 ?_ | simp -implicitDefEqProofs (maxSteps := 2000000) (disch := first | assumption | omega) [*, ])
      all_goals (first | (exfalso; omega) | ((try subst_vars); (first | refine EndsE.eq ?_ (by simp) | refine EndsE.eqat ?_ (by simp)); (first | with_reducible rfl | (simp [*, Prog.mk.injEq]; done) | (simp [*, Prog.mk.injEq]; omega) | (simp only [LV.bool.injEq]; rw [Bool.eq_iff_iff]; simp [*, Prog.mk.injEq]; done) | (simp only [LV.bool.injEq]; rw [Bool.eq_iff_iff]; simp [*, Prog.mk.injEq]; omega) | (simp only [LV.bool.injEq]; rw [Bool.eq_iff_iff]; simp (disch := omega) only [if_pos, if_neg, if_true, if_false, *, Prog.mk.injEq]; simp <;> omega) | (simp only [LV.bool.injEq, Bool.and_eq_false_imp, Bool.and_eq_true, decide_eq_true_eq]; intros; exfalso; omega) | (simp only [LV.bool.injEq, Bool.and_eq_false_imp, Bool.and_eq_true, decide_eq_true_eq]; intros; simp_all; done))))
  · have hd : fs ≠ fs' := by rintro rfl; exact hl rfl
    have hl' : (fs.length : Int) ≠ fs'.length := by omega
    refine aCalls_go Tryz.func11 rfl (by decide) Tryz.ntmps11 (by simp) false ?_
    have hres : Tryz.f11.results = #[.tmp 4] := rfl
    repeat' (first | with_reducible refine br_t ?_ | with_reducible refine br_f ?_ | with_reducible refine br_dec (fun _ => ?_) (fun _ => ?_) | with_reducible refine g_dec (fun _ => ?_) (fun _ => ?_) | with_reducible refine g_ndec (fun _ => ?_) (fun _ => ?_) | with_reducible refine br_not (fun _ => ?_) (fun _ => ?_) | with_reducible refine br_split (fun _ => ?_) (fun _ => ?_) | with_reducible refine g_not (fun _ => ?_) (fun _ => ?_) | with_reducible refine g_split (fun _ => ?_) (fun _ => ?_) | with_reducible refine px_dec (fun _ => ?_) (fun _ => ?_) | with_reducible refine px_ndec (fun _ => ?_) (fun _ => ?_) | with_reducible refine px_split (fun _ => ?_) (fun _ => ?_) | (with_reducible refine aWh_draw (own := false) (id := 13) (.qs [0, 1, 2, 3, 4, 5, 6, 7, 8, 9, 10] .nil) mixed ?_ ?_ ?_; kernel_rfl; kernel_rfl) | simp -implicitDefEqProofs (maxSteps := 2000000) (disch := first | assumption | omega) [*, ])
    all_goals exact EndsE.eqat (by simp [hd]) (by simp)
end Go.Hb
end

section
namespace Go.Hb
open Go Go.Proofs Go.RowKit
set_option maxRecDepth 100000
set_option maxHeartbeats 800000
attribute [-simp] aC aL aOper aThen aInBlock aIf aPlan aAppend aLen aIndexAddr aSlice aCells aBounds lBr aq initT aev aAppendOwn aAppendNil aAppendNew aAppendRef LV.cells LV.cellsOk getElem?_pos getElem?_neg

theorem cloneF_c {l : List Fn_} {s : List AObj} {v : List Nat} (hb2 : l.length * 32 ≤ 140737488355328) : aCalls Tryz.prog 41 [row l] s v (CloneR l s v) := by
  have hb : l.length ≤ maxLen := by unfold maxLen; omega
  by_cases hl : l = []
  · subst hl
    refine aCalls_emp ?_ ?_
    · refine aCalls_go Tryz.func41 rfl (by decide) Tryz.ntmps41 (by simp) true ?_
      have hres : Tryz.f41.results = #[.tmp 2] := rfl
      repeat' (first | with_reducible refine br_t ?_ | with_reducible refine br_f ?_ | with_reducible refine br_dec (fun _ => ?_) (fun _ => ?_) | with_reducible refine g_dec (fun _ => ?_) (fun _ => ?_) | with_reducible refine g_ndec (fun _ => ?_) (fun _ => ?_) | with_reducible refine br_not (fun _ => ?_) (fun _ => ?_) | with_reducible refine br_split (fun _ => ?_) (fun _ => ?_) | with_reducible refine g_not (fun _ => ?_) (fun _ => ?_) | with_reducible refine g_split (fun _ => ?_) (fun _ => ?_) | with_reducible refine px_dec (fun _ => ?_) (fun _ => ?_) | with_reducible refine px_ndec (fun _ => ?_) (fun _ => ?_) | with_reducible refine px_split (fun _ => ?_) (fun _ => ?_) | simp -implicitDefEqProofs (maxSteps := 2000000) (disch := first | assumption | omega) [*, ])
      exact ⟨rfl, .inl ⟨rfl, rfl, .inl rfl⟩⟩
    · have ha := own_clone0 (P := Tryz.prog) (t := 23) (t2 := 23) (sz := 2) (by_ := 32) (by kernel_rfl) s
      refine aCalls_go Tryz.func41 rfl (by decide) Tryz.ntmps41 (by simp) true ?_
      have hres : Tryz.f41.results = #[.tmp 2] := rfl
      repeat' (first | with_reducible refine br_t ?_ | with_reducible refine br_f ?_ | with_reducible refine br_dec (fun _ => ?_) (fun _ => ?_) | with_reducible refine g_dec (fun _ => ?_) (fun _ => ?_) | with_reducible refine g_ndec (fun _ => ?_) (fun _ => ?_) | with_reducible refine br_not (fun _ => ?_) (fun _ => ?_) | with_reducible refine br_split (fun _ => ?_) (fun _ => ?_) | with_reducible refine g_not (fun _ => ?_) (fun _ => ?_) | with_reducible refine g_split (fun _ => ?_) (fun _ => ?_) | with_reducible refine px_dec (fun _ => ?_) (fun _ => ?_) | with_reducible refine px_ndec (fun _ => ?_) (fun _ => ?_) | with_reducible refine px_split (fun _ => ?_) (fun _ => ?_) | simp -implicitDefEqProofs (maxSteps := 2000000) (disch := first | assumption | omega) [*, ])
      exact ⟨rfl, .inl ⟨rfl, rfl, .inr rfl⟩⟩
  · have h0 : l.length ≠ 0 := fun h => hl (List.length_eq_zero_iff.1 h)
    have ha := own_clone (P := Tryz.prog) (t := 23) (t2 := 23) (sz := 2) (by_ := 32) (by kernel_rfl) rfl h0 hb hb2 s
    show aCalls Tryz.prog 41 [.imm 2 l.length (rowCs l) .no] s v (CloneR l s v)
    replace ha : aAppendOwn Tryz.prog 23 23 (.imm 2 0 [] .full) (.imm 2 l.length (rowCs l) .no) s = some (.ref 2 s.length 0 l.length false, s ++ [.cells (rowCs l)]) := ha
    refine aCalls_go Tryz.func41 rfl (by decide) Tryz.ntmps41 (by simp) true ?_
    have hres : Tryz.f41.results = #[.tmp 2] := rfl
    repeat' (first | with_reducible refine br_t ?_ | with_reducible refine br_f ?_ | with_reducible refine br_dec (fun _ => ?_) (fun _ => ?_) | with_reducible refine g_dec (fun _ => ?_) (fun _ => ?_) | with_reducible refine g_ndec (fun _ => ?_) (fun _ => ?_) | with_reducible refine br_not (fun _ => ?_) (fun _ => ?_) | with_reducible refine br_split (fun _ => ?_) (fun _ => ?_) | with_reducible refine g_not (fun _ => ?_) (fun _ => ?_) | with_reducible refine g_split (fun _ => ?_) (fun _ => ?_) | with_reducible refine px_dec (fun _ => ?_) (fun _ => ?_) | with_reducible refine px_ndec (fun _ => ?_) (fun _ => ?_) | with_reducible refine px_split (fun _ => ?_) (fun _ => ?_) | simp -implicitDefEqProofs (maxSteps := 2000000) (disch := first | assumption | omega) [*, ])
    exact ⟨rfl, .inr ⟨hl, rfl, rfl⟩⟩

theorem cloneIns_c {l : List Ins} {s : List AObj} {v : List Nat} (hb2 : l.length * 16 ≤ 140737488355328) : aCalls Tryz.prog 42 [row l] s v (CloneR l s v) := by
  have hb : l.length ≤ maxLen := by unfold maxLen; omega
  by_cases hl : l = []
  · subst hl
    refine aCalls_emp ?_ ?_
    · refine aCalls_go Tryz.func42 rfl (by decide) Tryz.ntmps42 (by simp) true ?_
      have hres : Tryz.f42.results = #[.tmp 2] := rfl
      repeat' (first | with_reducible refine br_t ?_ | with_reducible refine br_f ?_ | with_reducible refine br_dec (fun _ => ?_) (fun _ => ?_) | with_reducible refine g_dec (fun _ => ?_) (fun _ => ?_) | with_reducible refine g_ndec (fun _ => ?_) (fun _ => ?_) | with_reducible refine br_not (fun _ => ?_) (fun _ => ?_) | with_reducible refine br_split (fun _ => ?_) (fun _ => ?_) | with_reducible refine g_not (fun _ => ?_) (fun _ => ?_) | with_reducible refine g_split (fun _ => ?_) (fun _ => ?_) | with_reducible refine px_dec (fun _ => ?_) (fun _ => ?_) | with_reducible refine px_ndec (fun _ => ?_) (fun _ => ?_) | with_reducible refine px_split (fun _ => ?_) (fun _ => ?_) | simp -implicitDefEqProofs (maxSteps := 2000000) (disch := first | assumption | omega) [*, ])
      exact ⟨rfl, .inl ⟨rfl, rfl, .inl rfl⟩⟩
    · have ha := own_clone0 (P := Tryz.prog) (t := 44) (t2 := 44) (sz := 2) (by_ := 16) (by kernel_rfl) s
      refine aCalls_go Tryz.func42 rfl (by decide) Tryz.ntmps42 (by simp) true ?_
      have hres : Tryz.f42.results = #[.tmp 2] := rfl
      repeat' (first | with_reducible refine br_t ?_ | with_reducible refine br_f ?_ | with_reducible refine br_dec (fun _ => ?_) (fun _ => ?_) | with_reducible refine g_dec (fun _ => ?_) (fun _ => ?_) | with_reducible refine g_ndec (fun _ => ?_) (fun _ => ?_) | with_reducible refine br_not (fun _ => ?_) (fun _ => ?_) | with_reducible refine br_split (fun _ => ?_) (fun _ => ?_) | with_reducible refine g_not (fun _ => ?_) (fun _ => ?_) | with_reducible refine g_split (fun _ => ?_) (fun _ => ?_) | with_reducible refine px_dec (fun _ => ?_) (fun _ => ?_) | with_reducible refine px_ndec (fun _ => ?_) (fun _ => ?_) | with_reducible refine px_split (fun _ => ?_) (fun _ => ?_) | simp -implicitDefEqProofs (maxSteps := 2000000) (disch := first | assumption | omega) [*, ])
      exact ⟨rfl, .inl ⟨rfl, rfl, .inr rfl⟩⟩
  · have h0 : l.length ≠ 0 := fun h => hl (List.length_eq_zero_iff.1 h)
    have ha := own_clone (P := Tryz.prog) (t := 44) (t2 := 44) (sz := 2) (by_ := 16) (by kernel_rfl) rfl h0 hb hb2 s
    show aCalls Tryz.prog 42 [.imm 2 l.length (rowCs l) .no] s v (CloneR l s v)
    replace ha : aAppendOwn Tryz.prog 44 44 (.imm 2 0 [] .full) (.imm 2 l.length (rowCs l) .no) s = some (.ref 2 s.length 0 l.length false, s ++ [.cells (rowCs l)]) := ha
    refine aCalls_go Tryz.func42 rfl (by decide) Tryz.ntmps42 (by simp) true ?_
    have hres : Tryz.f42.results = #[.tmp 2] := rfl
    repeat' (first | with_reducible refine br_t ?_ | with_reducible refine br_f ?_ | with_reducible refine br_dec (fun _ => ?_) (fun _ => ?_) | with_reducible refine g_dec (fun _ => ?_) (fun _ => ?_) | with_reducible refine g_ndec (fun _ => ?_) (fun _ => ?_) | with_reducible refine br_not (fun _ => ?_) (fun _ => ?_) | with_reducible refine br_split (fun _ => ?_) (fun _ => ?_) | with_reducible refine g_not (fun _ => ?_) (fun _ => ?_) | with_reducible refine g_split (fun _ => ?_) (fun _ => ?_) | with_reducible refine px_dec (fun _ => ?_) (fun _ => ?_) | with_reducible refine px_ndec (fun _ => ?_) (fun _ => ?_) | with_reducible refine px_split (fun _ => ?_) (fun _ => ?_) | simp -implicitDefEqProofs (maxSteps := 2000000) (disch := first | assumption | omega) [*, ])
    exact ⟨rfl, .inr ⟨hl, rfl, rfl⟩⟩

theorem cloneL_c {l : List (List Int)} {s : List AObj} {v : List Nat} (hb2 : l.length * 24 ≤ 140737488355328) : aCalls Tryz.prog 44 [row l] s v (CloneR l s v) := by
  have hb : l.length ≤ maxLen := by unfold maxLen; omega
  by_cases hl : l = []
  · subst hl
    refine aCalls_emp ?_ ?_
    · refine aCalls_go Tryz.func44 rfl (by decide) Tryz.ntmps44 (by simp) true ?_
      have hres : Tryz.f44.results = #[.tmp 2] := rfl
      repeat' (first | with_reducible refine br_t ?_ | with_reducible refine br_f ?_ | with_reducible refine br_dec (fun _ => ?_) (fun _ => ?_) | with_reducible refine g_dec (fun _ => ?_) (fun _ => ?_) | with_reducible refine g_ndec (fun _ => ?_) (fun _ => ?_) | with_reducible refine br_not (fun _ => ?_) (fun _ => ?_) | with_reducible refine br_split (fun _ => ?_) (fun _ => ?_) | with_reducible refine g_not (fun _ => ?_) (fun _ => ?_) | with_reducible refine g_split (fun _ => ?_) (fun _ => ?_) | with_reducible refine px_dec (fun _ => ?_) (fun _ => ?_) | with_reducible refine px_ndec (fun _ => ?_) (fun _ => ?_) | with_reducible refine px_split (fun _ => ?_) (fun _ => ?_) | simp -implicitDefEqProofs (maxSteps := 2000000) (disch := first | assumption | omega) [*, ])
      exact ⟨rfl, .inl ⟨rfl, rfl, .inl rfl⟩⟩
    · have ha := own_clone0 (P := Tryz.prog) (t := 25) (t2 := 25) (sz := 1) (by_ := 24) (by kernel_rfl) s
      refine aCalls_go Tryz.func44 rfl (by decide) Tryz.ntmps44 (by simp) true ?_
      have hres : Tryz.f44.results = #[.tmp 2] := rfl
      repeat' (first | with_reducible refine br_t ?_ | with_reducible refine br_f ?_ | with_reducible refine br_dec (fun _ => ?_) (fun _ => ?_) | with_reducible refine g_dec (fun _ => ?_) (fun _ => ?_) | with_reducible refine g_ndec (fun _ => ?_) (fun _ => ?_) | with_reducible refine br_not (fun _ => ?_) (fun _ => ?_) | with_reducible refine br_split (fun _ => ?_) (fun _ => ?_) | with_reducible refine g_not (fun _ => ?_) (fun _ => ?_) | with_reducible refine g_split (fun _ => ?_) (fun _ => ?_) | with_reducible refine px_dec (fun _ => ?_) (fun _ => ?_) | with_reducible refine px_ndec (fun _ => ?_) (fun _ => ?_) | with_reducible refine px_split (fun _ => ?_) (fun _ => ?_) | simp -implicitDefEqProofs (maxSteps := 2000000) (disch := first | assumption | omega) [*, ])
      exact ⟨rfl, .inl ⟨rfl, rfl, .inr rfl⟩⟩
  · have h0 : l.length ≠ 0 := fun h => hl (List.length_eq_zero_iff.1 h)
    have ha := own_clone (P := Tryz.prog) (t := 25) (t2 := 25) (sz := 1) (by_ := 24) (by kernel_rfl) rfl h0 hb hb2 s
    show aCalls Tryz.prog 44 [.imm 1 l.length (rowCs l) .no] s v (CloneR l s v)
    replace ha : aAppendOwn Tryz.prog 25 25 (.imm 1 0 [] .full) (.imm 1 l.length (rowCs l) .no) s = some (.ref 1 s.length 0 l.length false, s ++ [.cells (rowCs l)]) := ha
    refine aCalls_go Tryz.func44 rfl (by decide) Tryz.ntmps44 (by simp) true ?_
    have hres : Tryz.f44.results = #[.tmp 2] := rfl
    repeat' (first | with_reducible refine br_t ?_ | with_reducible refine br_f ?_ | with_reducible refine br_dec (fun _ => ?_) (fun _ => ?_) | with_reducible refine g_dec (fun _ => ?_) (fun _ => ?_) | with_reducible refine g_ndec (fun _ => ?_) (fun _ => ?_) | with_reducible refine br_not (fun _ => ?_) (fun _ => ?_) | with_reducible refine br_split (fun _ => ?_) (fun _ => ?_) | with_reducible refine g_not (fun _ => ?_) (fun _ => ?_) | with_reducible refine g_split (fun _ => ?_) (fun _ => ?_) | with_reducible refine px_dec (fun _ => ?_) (fun _ => ?_) | with_reducible refine px_ndec (fun _ => ?_) (fun _ => ?_) | with_reducible refine px_split (fun _ => ?_) (fun _ => ?_) | simp -implicitDefEqProofs (maxSteps := 2000000) (disch := first | assumption | omega) [*, ])
    exact ⟨rfl, .inr ⟨hl, rfl, rfl⟩⟩
end Go.Hb
end

section
namespace Go.Hb
open Go Go.Proofs Go.RowKit
set_option maxRecDepth 100000
set_option maxHeartbeats 800000
attribute [-simp] aC aL aOper aThen aInBlock aIf aPlan aAppend aLen aIndexAddr aSlice aCells aBounds lBr aq initT aev aAppendOwn aAppendNil aAppendNew aAppendRef LV.cells LV.cellsOk getElem?_pos getElem?_neg

theorem cloneIns_f {l : List Ins} (hb : l.length ≤ 90000000) : Fresh Tryz.prog 42 [row l] l := by
  refine .of fun s v => ?_
  by_cases hl : l = []
  · subst hl
    refine aCalls_emp ?_ ?_
    · refine aCalls_go Tryz.func42 rfl (by decide) Tryz.ntmps42 (by simp) false ?_
      have hres : Tryz.f42.results = #[.tmp 2] := rfl
      repeat' (first | with_reducible refine br_t ?_ | with_reducible refine br_f ?_ | with_reducible refine br_dec (fun _ => ?_) (fun _ => ?_) | with_reducible refine g_dec (fun _ => ?_) (fun _ => ?_) | with_reducible refine g_ndec (fun _ => ?_) (fun _ => ?_) | with_reducible refine br_not (fun _ => ?_) (fun _ => ?_) | with_reducible refine br_split (fun _ => ?_) (fun _ => ?_) | with_reducible refine g_not (fun _ => ?_) (fun _ => ?_) | with_reducible refine g_split (fun _ => ?_) (fun _ => ?_) | with_reducible refine px_dec (fun _ => ?_) (fun _ => ?_) | with_reducible refine px_ndec (fun _ => ?_) (fun _ => ?_) | with_reducible refine px_split (fun _ => ?_) (fun _ => ?_) | simp -implicitDefEqProofs (maxSteps := 2000000) (disch := first | assumption | omega) [*, ])
      exact ⟨_, GroC.nil _ _, trivial, rfl⟩
    · obtain ⟨x', v', hx', _, ha⟩ := GroC.app (P := Tryz.prog) (t := 44) (t2 := 44) (sz := 2) (by_ := 16) (v0 := v) (v := v) (n := 0) (m := 0) (cs := []) (ds := []) (x := .imm 2 0 [] .full) (by kernel_rfl) ⟨List.prefix_refl _, .inl ⟨rfl, rfl, .inr rfl⟩⟩ (fun _ => rfl) (by unfold maxLen; omega) (by omega)
      replace ha := fun s => ha (.emp 2) s (by simp [aCells])
      have hg : Gro v v' ([] : List Ins) x' := GroE.gro (by unfold GroE; simpa using hx')
      have hxc := hg.cells
      refine aCalls_go Tryz.func42 rfl (by decide) Tryz.ntmps42 (by simp) false ?_
      have hres : Tryz.f42.results = #[.tmp 2] := rfl
      repeat' (first | with_reducible refine br_t ?_ | with_reducible refine br_f ?_ | with_reducible refine br_dec (fun _ => ?_) (fun _ => ?_) | with_reducible refine g_dec (fun _ => ?_) (fun _ => ?_) | with_reducible refine g_ndec (fun _ => ?_) (fun _ => ?_) | with_reducible refine br_not (fun _ => ?_) (fun _ => ?_) | with_reducible refine br_split (fun _ => ?_) (fun _ => ?_) | with_reducible refine g_not (fun _ => ?_) (fun _ => ?_) | with_reducible refine g_split (fun _ => ?_) (fun _ => ?_) | with_reducible refine px_dec (fun _ => ?_) (fun _ => ?_) | with_reducible refine px_ndec (fun _ => ?_) (fun _ => ?_) | with_reducible refine px_split (fun _ => ?_) (fun _ => ?_) | simp -implicitDefEqProofs (maxSteps := 2000000) (disch := first | assumption | omega) [*, ])
  · have h0 : l.length ≠ 0 := fun h => hl (List.length_eq_zero_iff.1 h)
    obtain ⟨x', v', hx', _, ha⟩ := GroC.app (P := Tryz.prog) (t := 44) (t2 := 44) (sz := 2) (by_ := 16) (v0 := v) (v := v) (n := 0) (m := l.length) (cs := []) (ds := rowCs l) (x := .imm 2 0 [] .full) (by kernel_rfl) ⟨List.prefix_refl _, .inl ⟨rfl, rfl, .inr rfl⟩⟩ (fun h => absurd h h0) (by unfold maxLen; omega) (by omega)
    have ha := fun s => ha (row l) s (by simp)
    have hg : Gro v v' l x' := GroE.gro (by unfold GroE; simpa using hx')
    have hxc := hg.cells
    show aCalls Tryz.prog 42 [.imm 2 l.length (rowCs l) .no] s v _
    replace ha : ∀ s, aAppend Tryz.prog 44 44 (.imm 2 0 [] .full) (.imm 2 l.length (rowCs l) .no) s v = some (x', v') := ha
    refine aCalls_go Tryz.func42 rfl (by decide) Tryz.ntmps42 (by simp) false ?_
    have hres : Tryz.f42.results = #[.tmp 2] := rfl
    repeat' (first | with_reducible refine br_t ?_ | with_reducible refine br_f ?_ | with_reducible refine br_dec (fun _ => ?_) (fun _ => ?_) | with_reducible refine g_dec (fun _ => ?_) (fun _ => ?_) | with_reducible refine g_ndec (fun _ => ?_) (fun _ => ?_) | with_reducible refine br_not (fun _ => ?_) (fun _ => ?_) | with_reducible refine br_split (fun _ => ?_) (fun _ => ?_) | with_reducible refine g_not (fun _ => ?_) (fun _ => ?_) | with_reducible refine g_split (fun _ => ?_) (fun _ => ?_) | with_reducible refine px_dec (fun _ => ?_) (fun _ => ?_) | with_reducible refine px_ndec (fun _ => ?_) (fun _ => ?_) | with_reducible refine px_split (fun _ => ?_) (fun _ => ?_) | simp -implicitDefEqProofs (maxSteps := 2000000) (disch := first | assumption | omega) [*, ])

theorem cloneI_f {l : List Int} (hb : l.length ≤ 90000000) : Fresh Tryz.prog 43 [row l] l := by
  refine .of fun s v => ?_
  by_cases hl : l = []
  · subst hl
    refine aCalls_emp ?_ ?_
    · refine aCalls_go Tryz.func43 rfl (by decide) Tryz.ntmps43 (by simp) false ?_
      have hres : Tryz.f43.results = #[.tmp 2] := rfl
      repeat' (first | with_reducible refine br_t ?_ | with_reducible refine br_f ?_ | with_reducible refine br_dec (fun _ => ?_) (fun _ => ?_) | with_reducible refine g_dec (fun _ => ?_) (fun _ => ?_) | with_reducible refine g_ndec (fun _ => ?_) (fun _ => ?_) | with_reducible refine br_not (fun _ => ?_) (fun _ => ?_) | with_reducible refine br_split (fun _ => ?_) (fun _ => ?_) | with_reducible refine g_not (fun _ => ?_) (fun _ => ?_) | with_reducible refine g_split (fun _ => ?_) (fun _ => ?_) | with_reducible refine px_dec (fun _ => ?_) (fun _ => ?_) | with_reducible refine px_ndec (fun _ => ?_) (fun _ => ?_) | with_reducible refine px_split (fun _ => ?_) (fun _ => ?_) | simp -implicitDefEqProofs (maxSteps := 2000000) (disch := first | assumption | omega) [*, ])
      exact ⟨_, GroC.nil _ _, trivial, rfl⟩
    · obtain ⟨x', v', hx', _, ha⟩ := GroC.app (P := Tryz.prog) (t := 24) (t2 := 24) (sz := 1) (by_ := 8) (v0 := v) (v := v) (n := 0) (m := 0) (cs := []) (ds := []) (x := .imm 1 0 [] .full) (by kernel_rfl) ⟨List.prefix_refl _, .inl ⟨rfl, rfl, .inr rfl⟩⟩ (fun _ => rfl) (by unfold maxLen; omega) (by omega)
      replace ha := fun s => ha (.emp 1) s (by simp [aCells])
      have hg : Gro v v' ([] : List Int) x' := GroE.gro (by unfold GroE; simpa using hx')
      have hxc := hg.cells
      refine aCalls_go Tryz.func43 rfl (by decide) Tryz.ntmps43 (by simp) false ?_
      have hres : Tryz.f43.results = #[.tmp 2] := rfl
      repeat' (first | with_reducible refine br_t ?_ | with_reducible refine br_f ?_ | with_reducible refine br_dec (fun _ => ?_) (fun _ => ?_) | with_reducible refine g_dec (fun _ => ?_) (fun _ => ?_) | with_reducible refine g_ndec (fun _ => ?_) (fun _ => ?_) | with_reducible refine br_not (fun _ => ?_) (fun _ => ?_) | with_reducible refine br_split (fun _ => ?_) (fun _ => ?_) | with_reducible refine g_not (fun _ => ?_) (fun _ => ?_) | with_reducible refine g_split (fun _ => ?_) (fun _ => ?_) | with_reducible refine px_dec (fun _ => ?_) (fun _ => ?_) | with_reducible refine px_ndec (fun _ => ?_) (fun _ => ?_) | with_reducible refine px_split (fun _ => ?_) (fun _ => ?_) | simp -implicitDefEqProofs (maxSteps := 2000000) (disch := first | assumption | omega) [*, ])
  · have h0 : l.length ≠ 0 := fun h => hl (List.length_eq_zero_iff.1 h)
    obtain ⟨x', v', hx', _, ha⟩ := GroC.app (P := Tryz.prog) (t := 24) (t2 := 24) (sz := 1) (by_ := 8) (v0 := v) (v := v) (n := 0) (m := l.length) (cs := []) (ds := rowCs l) (x := .imm 1 0 [] .full) (by kernel_rfl) ⟨List.prefix_refl _, .inl ⟨rfl, rfl, .inr rfl⟩⟩ (fun h => absurd h h0) (by unfold maxLen; omega) (by omega)
    have ha := fun s => ha (row l) s (by simp)
    have hg : Gro v v' l x' := GroE.gro (by unfold GroE; simpa using hx')
    have hxc := hg.cells
    show aCalls Tryz.prog 43 [.imm 1 l.length (rowCs l) .no] s v _
    replace ha : ∀ s, aAppend Tryz.prog 24 24 (.imm 1 0 [] .full) (.imm 1 l.length (rowCs l) .no) s v = some (x', v') := ha
    refine aCalls_go Tryz.func43 rfl (by decide) Tryz.ntmps43 (by simp) false ?_
    have hres : Tryz.f43.results = #[.tmp 2] := rfl
    repeat' (first | with_reducible refine br_t ?_ | with_reducible refine br_f ?_ | with_reducible refine br_dec (fun _ => ?_) (fun _ => ?_) | with_reducible refine g_dec (fun _ => ?_) (fun _ => ?_) | with_reducible refine g_ndec (fun _ => ?_) (fun _ => ?_) | with_reducible refine br_not (fun _ => ?_) (fun _ => ?_) | with_reducible refine br_split (fun _ => ?_) (fun _ => ?_) | with_reducible refine g_not (fun _ => ?_) (fun _ => ?_) | with_reducible refine g_split (fun _ => ?_) (fun _ => ?_) | with_reducible refine px_dec (fun _ => ?_) (fun _ => ?_) | with_reducible refine px_ndec (fun _ => ?_) (fun _ => ?_) | with_reducible refine px_split (fun _ => ?_) (fun _ => ?_) | simp -implicitDefEqProofs (maxSteps := 2000000) (disch := first | assumption | omega) [*, ])

theorem set_same2 {L : List Fn_} {k : Nat} (h : k < L.length) : (rowCs L).set (k * 2 + 1) (row (nth L k).code) = rowCs L := by
  have h1 := rowCs_at (l := L) h
  simp only [sz_fn, enc_fn] at h1
  have h2 : (((rowCs L).drop (k * 2)).take 2)[1]? = some (row (nth L k).code) := by rw [h1]; rfl
  rw [List.getElem?_take_of_lt (by omega), List.getElem?_drop] at h2
  apply List.ext_getElem?
  intro i
  by_cases e : k * 2 + 1 = i
  · subst e; rw [List.getElem?_set_self (List.getElem?_eq_some_iff.1 h2).1, h2]
  · rw [List.getElem?_set_ne e]
theorem set_same1 {L : List (List Int)} {k : Nat} (h : k < L.length) : (rowCs L).set k (row (nth L k)) = rowCs L := by
  have h1 := rowCs_at (l := L) h
  simp only [sz_list, enc_list, Nat.mul_one] at h1
  have h2 : (((rowCs L).drop k).take 1)[0]? = some (row (nth L k)) := by rw [h1]; rfl
  rw [List.getElem?_take_of_lt (by omega), List.getElem?_drop, Nat.add_zero] at h2
  apply List.ext_getElem?
  intro i
  by_cases e : k = i
  · subst e; rw [List.getElem?_set_self (List.getElem?_eq_some_iff.1 h2).1, h2]
  · rw [List.getElem?_set_ne e]
theorem rowL_at {L : List (List Int)} {k : Nat} (h : k < L.length) : (rowCs L)[k]? = some (row (nth L k)) := by
  have h1 := rowCs_at (l := L) h
  simp only [sz_list, enc_list, Nat.mul_one] at h1
  have h2 : (((rowCs L).drop k).take 1)[0]? = some (row (nth L k)) := by rw [h1]; rfl
  rw [List.getElem?_take_of_lt (by omega), List.getElem?_drop, Nat.add_zero] at h2
  exact h2
theorem deep_keep {S : List AObj} {n : Nat} : ∀ (l : List LV), undersB n l = true → DeepVs S n l l
  | [], _ => .nil
  | x :: xs, h => by
    simp only [undersB, Bool.and_eq_true] at h
    exact .cons _ _ _ _ (.keep _ h.1) (deep_keep xs h.2)
theorem deep_row {α : Type} [Enc α] {S : List AObj} {n id : Nat} {l : List α} {fl : Bool} (h : n ≤ id) (hs : S[id]? = some (.cells (rowCs l))) (hl : rowCs l ≠ []) : DeepV S n (.ref (Enc.sz α) id 0 l.length fl) (row l) := by
  have e : rowCs l = (List.take (l.length * Enc.sz α) (List.drop 0 (rowCs l))) := by rw [List.drop_zero, List.take_of_length_le (by rw [rowCs_len]; exact Nat.le_refl _)]
  unfold row
  refine .ref _ id 0 l.length fl (rowCs l) _ h hs hl (by rw [rowCs_len]; omega) ?_
  rw [← e]
  exact deep_keep _ (rowCs_und n l)
set_option maxHeartbeats 8000000 in
theorem cclone_p {fs : List Fn_} {mu th : Int} {co se ch : List Int} {cho : List (List Int)} (hfs : fs ≠ []) (hfl : fs.length ≤ 1000) (hcl : ∀ k < fs.length, (nth fs k).code.length ≤ 1000) (h3 : co.length ≤ 1000) (h4 : se.length ≤ 1000) (h5 : ch.length ≤ 1000) (hol : cho.length ≤ 1000) (hrl : ∀ k < cho.length, (nth cho k).length ≤ 1000) :
    PureC Tryz.prog 15 [.agg [row fs, .int .i64 mu, row co, row se, row ch, row cho, .int .i64 th]] (.agg [row fs, .int .i64 mu, row co, row se, row ch, row cho, .int .i64 th]) := by
  intro s v
  refine aCalls_mono (R := fun x s' v' => x = .agg [row fs, .int .i64 mu, row co, row se, row ch, row cho, .int .i64 th] ∧ s' = s ∧ v <+: v') ?_ (fun _ _ _ h => ⟨h.1.symm, h.2.1.symm, h.2.2⟩)
  refine aCalls_deep ?_
  have hf0 : fs.length ≠ 0 := fun e => hfs (List.length_eq_zero_iff.1 e)
  have hfne : rowCs fs ≠ [] := by
    intro e
    have := rowCs_len fs
    rw [e] at this; simp at this; omega
  have hrf := rowCs_len fs
  simp only [sz_fn] at hrf
  have hro := rowCs_len cho
  simp only [sz_list, Nat.mul_one] at hro
  refine aCalls_go Tryz.func15 rfl (by decide) Tryz.ntmps15 (by simp) true ?_
  have hres : Tryz.f15.results = #[.cell 2 27] := rfl
  repeat' (first | with_reducible refine br_t ?_ | with_reducible refine br_f ?_ | with_reducible refine br_dec (fun _ => ?_) (fun _ => ?_) | with_reducible refine g_dec (fun _ => ?_) (fun _ => ?_) | with_reducible refine g_ndec (fun _ => ?_) (fun _ => ?_) | with_reducible refine br_not (fun _ => ?_) (fun _ => ?_) | with_reducible refine br_split (fun _ => ?_) (fun _ => ?_) | with_reducible refine g_not (fun _ => ?_) (fun _ => ?_) | with_reducible refine g_split (fun _ => ?_) (fun _ => ?_) | with_reducible refine px_dec (fun _ => ?_) (fun _ => ?_) | with_reducible refine px_ndec (fun _ => ?_) (fun _ => ?_) | with_reducible refine px_split (fun _ => ?_) (fun _ => ?_) | (with_reducible refine aWh_draw (own := true) (id := 5) (.qs [0, 1, 2, 3, 4] (.w 5 [1] (.qs [6, 7] (.w 8 [] .nil)))) mixed ?_ ?_ ?_; kernel_rfl; kernel_rfl) | (with_reducible refine aWh_draw (own := true) (id := 7) (.qs [0, 1, 3, 4, 6, 7, 9, 10] (.w 2 [10, 7, 4] (.qs [12] (.w 5 [10, 7] (.w 8 [10] (.w 11 [] (.w 13 [] (.qs [14] (.w 15 [] (.qs [16] (.w 17 [] (.qs [18] (.w 19 [] .nil))))))))))))) mixed ?_ ?_ ?_; kernel_rfl; kernel_rfl) | (with_reducible refine aWh_draw (own := true) (id := 11) (.qs [0, 1, 2, 3] (.w 4 [1] (.qs [5] (.w 6 [] .nil)))) mixed ?_ ?_ ?_; kernel_rfl; kernel_rfl) | with_reducible refine aCalls_mono (cloneF_c (by omega)) ?_ | simp -implicitDefEqProofs (maxSteps := 2000000) (disch := first | assumption | omega) [*, ])
  rintro x _ _ ⟨rfl, ⟨e, _, _⟩ | ⟨_, rfl, rfl⟩⟩
  · exact absurd e hfs
  repeat' (first | with_reducible refine br_t ?_ | with_reducible refine br_f ?_ | with_reducible refine br_dec (fun _ => ?_) (fun _ => ?_) | with_reducible refine g_dec (fun _ => ?_) (fun _ => ?_) | with_reducible refine g_ndec (fun _ => ?_) (fun _ => ?_) | with_reducible refine br_not (fun _ => ?_) (fun _ => ?_) | with_reducible refine br_split (fun _ => ?_) (fun _ => ?_) | with_reducible refine g_not (fun _ => ?_) (fun _ => ?_) | with_reducible refine g_split (fun _ => ?_) (fun _ => ?_) | with_reducible refine px_dec (fun _ => ?_) (fun _ => ?_) | with_reducible refine px_ndec (fun _ => ?_) (fun _ => ?_) | with_reducible refine px_split (fun _ => ?_) (fun _ => ?_) | (with_reducible refine aWh_draw (own := true) (id := 5) (.qs [0, 1, 2, 3, 4] (.w 5 [1] (.qs [6, 7] (.w 8 [] .nil)))) mixed ?_ ?_ ?_; kernel_rfl; kernel_rfl) | (with_reducible refine aWh_draw (own := true) (id := 7) (.qs [0, 1, 3, 4, 6, 7, 9, 10] (.w 2 [10, 7, 4] (.qs [12] (.w 5 [10, 7] (.w 8 [10] (.w 11 [] (.w 13 [] (.qs [14] (.w 15 [] (.qs [16] (.w 17 [] (.qs [18] (.w 19 [] .nil))))))))))))) mixed ?_ ?_ ?_; kernel_rfl; kernel_rfl) | (with_reducible refine aWh_draw (own := true) (id := 11) (.qs [0, 1, 2, 3] (.w 4 [1] (.qs [5] (.w 6 [] .nil)))) mixed ?_ ?_ ?_; kernel_rfl; kernel_rfl) | simp -implicitDefEqProofs (maxSteps := 2000000) (disch := first | assumption | omega) [*, ])
  refine aW_for (β := List Nat × List AObj) true fs.length (fun k p => v <+: p.1) (fun k p => [(14, .int .i64 k), (15, .any), (16, .any), (17, .any), (18, .any), (4, .any), (3, .any), (19, .any), (20, .any), (21, .any), (22, .any), (23, .any), (24, .any), (25, .any), (26, .any), (27, .any)]) (fun k p => s ++ (.cells [.ref 2 (s.length + 2) 0 fs.length false, .int .i64 mu, row co, row se, row ch, row cho, .int .i64 th] :: .cells [.nils, .int .i64 0, .nils, .nils, .nils, .nils, .int .i64 0] :: .cells (rowCs fs) :: p.2)) (fun _ p => p.1) ?_ ?_
  · exact ⟨(v, []), List.prefix_refl _, by (refine Fits.of ?_ (Off.refl _ _); simp [upd_apply, upds_cons]), rfl, rfl⟩
  rintro k ⟨v1, J⟩ hk hv1
  by_cases hlt : k < fs.length
  · have h2 := rowCs_at (l := fs) hlt
    simp only [sz_fn, enc_fn] at h2
    have hle : k * 2 + 2 ≤ (rowCs fs).length := by omega
    have hset := set_same2 hlt
    have hle2 : k * 2 + 2 ≤ fs.length * 2 := by omega
    have hc := (cloneIns_f (l := (nth fs k).code) (by have := hcl k hlt; omega)).pure
    repeat' (first | with_reducible refine br_t ?_ | with_reducible refine br_f ?_ | with_reducible refine br_dec (fun _ => ?_) (fun _ => ?_) | with_reducible refine g_dec (fun _ => ?_) (fun _ => ?_) | with_reducible refine g_ndec (fun _ => ?_) (fun _ => ?_) | with_reducible refine br_not (fun _ => ?_) (fun _ => ?_) | with_reducible refine br_split (fun _ => ?_) (fun _ => ?_) | with_reducible refine g_not (fun _ => ?_) (fun _ => ?_) | with_reducible refine g_split (fun _ => ?_) (fun _ => ?_) | with_reducible refine px_dec (fun _ => ?_) (fun _ => ?_) | with_reducible refine px_ndec (fun _ => ?_) (fun _ => ?_) | with_reducible refine px_split (fun _ => ?_) (fun _ => ?_) | (with_reducible refine aWh_draw (own := true) (id := 5) (.qs [0, 1, 2, 3, 4] (.w 5 [1] (.qs [6, 7] (.w 8 [] .nil)))) mixed ?_ ?_ ?_; kernel_rfl; kernel_rfl) | (with_reducible refine aWh_draw (own := true) (id := 7) (.qs [0, 1, 3, 4, 6, 7, 9, 10] (.w 2 [10, 7, 4] (.qs [12] (.w 5 [10, 7] (.w 8 [10] (.w 11 [] (.w 13 [] (.qs [14] (.w 15 [] (.qs [16] (.w 17 [] (.qs [18] (.w 19 [] .nil))))))))))))) mixed ?_ ?_ ?_; kernel_rfl; kernel_rfl) | (with_reducible refine aWh_draw (own := true) (id := 11) (.qs [0, 1, 2, 3] (.w 4 [1] (.qs [5] (.w 6 [] .nil)))) mixed ?_ ?_ ?_; kernel_rfl; kernel_rfl) | with_reducible refine callC hc (fun v2 hv2 => ?_) | simp -implicitDefEqProofs (maxSteps := 2000000) (disch := first | assumption | omega) [*, ])
    exact ⟨hlt, (_, _), hv1.trans hv2, by (refine Fits.of ?_ ?_; rotate_left; (repeat (first | with_reducible exact Off.refl _ _ | refine Off.upd rfl ?_ | refine Off.updO rfl ?_ | refine Off.upds rfl ?_)); simp [upd_apply, upds_cons]), rfl, rfl⟩
  · have : k = fs.length := by omega
    subst this
    have c1 := (cloneI_f (l := co) (by omega)).pure
    have c2 := (cloneI_f (l := se) (by omega)).pure
    have c3 := (cloneI_f (l := ch) (by omega)).pure
    simp only at hv1
    by_cases hcho : cho = []
    · subst hcho
      have c4 := fun s v => cloneL_c (l := []) (s := s) (v := v) (by simp)
      repeat' (first | with_reducible refine br_t ?_ | with_reducible refine br_f ?_ | with_reducible refine br_dec (fun _ => ?_) (fun _ => ?_) | with_reducible refine g_dec (fun _ => ?_) (fun _ => ?_) | with_reducible refine g_ndec (fun _ => ?_) (fun _ => ?_) | with_reducible refine br_not (fun _ => ?_) (fun _ => ?_) | with_reducible refine br_split (fun _ => ?_) (fun _ => ?_) | with_reducible refine g_not (fun _ => ?_) (fun _ => ?_) | with_reducible refine g_split (fun _ => ?_) (fun _ => ?_) | with_reducible refine px_dec (fun _ => ?_) (fun _ => ?_) | with_reducible refine px_ndec (fun _ => ?_) (fun _ => ?_) | with_reducible refine px_split (fun _ => ?_) (fun _ => ?_) | (with_reducible refine aWh_draw (own := true) (id := 5) (.qs [0, 1, 2, 3, 4] (.w 5 [1] (.qs [6, 7] (.w 8 [] .nil)))) mixed ?_ ?_ ?_; kernel_rfl; kernel_rfl) | (with_reducible refine aWh_draw (own := true) (id := 7) (.qs [0, 1, 3, 4, 6, 7, 9, 10] (.w 2 [10, 7, 4] (.qs [12] (.w 5 [10, 7] (.w 8 [10] (.w 11 [] (.w 13 [] (.qs [14] (.w 15 [] (.qs [16] (.w 17 [] (.qs [18] (.w 19 [] .nil))))))))))))) mixed ?_ ?_ ?_; kernel_rfl; kernel_rfl) | (with_reducible refine aWh_draw (own := true) (id := 11) (.qs [0, 1, 2, 3] (.w 4 [1] (.qs [5] (.w 6 [] .nil)))) mixed ?_ ?_ ?_; kernel_rfl; kernel_rfl) | with_reducible refine callC c1 (fun v2 hv2 => ?_) | with_reducible refine callC c2 (fun v3 hv3 => ?_) | with_reducible refine callC c3 (fun v4 hv4 => ?_) | with_reducible refine callK0 (c4 _ _) rfl (fun x hxc hx => ?_) | simp -implicitDefEqProofs (maxSteps := 2000000) (disch := first | assumption | omega) [*, ])
      have hxl := NilRow.len (P := Tryz.prog) (t := 25) (by kernel_rfl) hx
      have hp := ((hv1.trans hv2).trans hv3).trans hv4
      repeat' (first | with_reducible refine br_t ?_ | with_reducible refine br_f ?_ | with_reducible refine br_dec (fun _ => ?_) (fun _ => ?_) | with_reducible refine g_dec (fun _ => ?_) (fun _ => ?_) | with_reducible refine g_ndec (fun _ => ?_) (fun _ => ?_) | with_reducible refine br_not (fun _ => ?_) (fun _ => ?_) | with_reducible refine br_split (fun _ => ?_) (fun _ => ?_) | with_reducible refine g_not (fun _ => ?_) (fun _ => ?_) | with_reducible refine g_split (fun _ => ?_) (fun _ => ?_) | with_reducible refine px_dec (fun _ => ?_) (fun _ => ?_) | with_reducible refine px_ndec (fun _ => ?_) (fun _ => ?_) | with_reducible refine px_split (fun _ => ?_) (fun _ => ?_) | (with_reducible refine aWh_draw (own := true) (id := 5) (.qs [0, 1, 2, 3, 4] (.w 5 [1] (.qs [6, 7] (.w 8 [] .nil)))) mixed ?_ ?_ ?_; kernel_rfl; kernel_rfl) | (with_reducible refine aWh_draw (own := true) (id := 7) (.qs [0, 1, 3, 4, 6, 7, 9, 10] (.w 2 [10, 7, 4] (.qs [12] (.w 5 [10, 7] (.w 8 [10] (.w 11 [] (.w 13 [] (.qs [14] (.w 15 [] (.qs [16] (.w 17 [] (.qs [18] (.w 19 [] .nil))))))))))))) mixed ?_ ?_ ?_; kernel_rfl; kernel_rfl) | (with_reducible refine aWh_draw (own := true) (id := 11) (.qs [0, 1, 2, 3] (.w 4 [1] (.qs [5] (.w 6 [] .nil)))) mixed ?_ ?_ ?_; kernel_rfl; kernel_rfl) | simp -implicitDefEqProofs (maxSteps := 2000000) (disch := first | assumption | omega) [*, ])
      refine aW_for (β := Unit) true 0 (fun _ _ => True) (fun k p => [(47, .int .i64 k), (48, .any), (49, .any), (50, .any), (51, .any), (5, .any), (6, .any), (52, .any), (53, .any), (54, .any), (55, .any), (56, .any), (57, .any), (58, .any)]) (fun _ _ => s ++ (.cells [.ref 2 (s.length + 2) 0 fs.length false, .int .i64 mu, row co, row se, row ch, x, .int .i64 th] :: .cells [.nils, .int .i64 0, .nils, .nils, .nils, .nils, .int .i64 0] :: .cells (rowCs fs) :: J)) (fun _ _ => v4) ?_ ?_
      · exact ⟨(), trivial, by (refine Fits.of ?_ (Off.refl _ _); simp [upd_apply, upds_cons]), rfl, rfl⟩
      rintro k _ hk _
      repeat' (first | with_reducible refine br_t ?_ | with_reducible refine br_f ?_ | with_reducible refine br_dec (fun _ => ?_) (fun _ => ?_) | with_reducible refine g_dec (fun _ => ?_) (fun _ => ?_) | with_reducible refine g_ndec (fun _ => ?_) (fun _ => ?_) | with_reducible refine br_not (fun _ => ?_) (fun _ => ?_) | with_reducible refine br_split (fun _ => ?_) (fun _ => ?_) | with_reducible refine g_not (fun _ => ?_) (fun _ => ?_) | with_reducible refine g_split (fun _ => ?_) (fun _ => ?_) | with_reducible refine px_dec (fun _ => ?_) (fun _ => ?_) | with_reducible refine px_ndec (fun _ => ?_) (fun _ => ?_) | with_reducible refine px_split (fun _ => ?_) (fun _ => ?_) | (with_reducible refine aWh_draw (own := true) (id := 5) (.qs [0, 1, 2, 3, 4] (.w 5 [1] (.qs [6, 7] (.w 8 [] .nil)))) mixed ?_ ?_ ?_; kernel_rfl; kernel_rfl) | (with_reducible refine aWh_draw (own := true) (id := 7) (.qs [0, 1, 3, 4, 6, 7, 9, 10] (.w 2 [10, 7, 4] (.qs [12] (.w 5 [10, 7] (.w 8 [10] (.w 11 [] (.w 13 [] (.qs [14] (.w 15 [] (.qs [16] (.w 17 [] (.qs [18] (.w 19 [] .nil))))))))))))) mixed ?_ ?_ ?_; kernel_rfl; kernel_rfl) | (with_reducible refine aWh_draw (own := true) (id := 11) (.qs [0, 1, 2, 3] (.w 4 [1] (.qs [5] (.w 6 [] .nil)))) mixed ?_ ?_ ?_; kernel_rfl; kernel_rfl) | simp -implicitDefEqProofs (maxSteps := 2000000) (disch := first | assumption | omega) [*, ])
      all_goals first | (exfalso; omega) | skip
      exact .agg _ _ (.cons _ _ _ _ (deep_row (α := Fn_) (by omega) (by simp [get_app]) hfne) (.cons _ _ _ _ (.keep _ rfl) (.cons _ _ _ _ (.keep _ (row_under _)) (.cons _ _ _ _ (.keep _ (row_under _)) (.cons _ _ _ _ (.keep _ (row_under _)) (.cons _ _ _ _ (.weak _ _ _ (.keep _ (NilRow.under hx)) (NilRow.weak hx)) (.cons _ _ _ _ (.keep _ rfl) .nil)))))))
    · have c4 := fun s v => cloneL_c (l := cho) (s := s) (v := v) (by omega)
      repeat' (first | with_reducible refine br_t ?_ | with_reducible refine br_f ?_ | with_reducible refine br_dec (fun _ => ?_) (fun _ => ?_) | with_reducible refine g_dec (fun _ => ?_) (fun _ => ?_) | with_reducible refine g_ndec (fun _ => ?_) (fun _ => ?_) | with_reducible refine br_not (fun _ => ?_) (fun _ => ?_) | with_reducible refine br_split (fun _ => ?_) (fun _ => ?_) | with_reducible refine g_not (fun _ => ?_) (fun _ => ?_) | with_reducible refine g_split (fun _ => ?_) (fun _ => ?_) | with_reducible refine px_dec (fun _ => ?_) (fun _ => ?_) | with_reducible refine px_ndec (fun _ => ?_) (fun _ => ?_) | with_reducible refine px_split (fun _ => ?_) (fun _ => ?_) | (with_reducible refine aWh_draw (own := true) (id := 5) (.qs [0, 1, 2, 3, 4] (.w 5 [1] (.qs [6, 7] (.w 8 [] .nil)))) mixed ?_ ?_ ?_; kernel_rfl; kernel_rfl) | (with_reducible refine aWh_draw (own := true) (id := 7) (.qs [0, 1, 3, 4, 6, 7, 9, 10] (.w 2 [10, 7, 4] (.qs [12] (.w 5 [10, 7] (.w 8 [10] (.w 11 [] (.w 13 [] (.qs [14] (.w 15 [] (.qs [16] (.w 17 [] (.qs [18] (.w 19 [] .nil))))))))))))) mixed ?_ ?_ ?_; kernel_rfl; kernel_rfl) | (with_reducible refine aWh_draw (own := true) (id := 11) (.qs [0, 1, 2, 3] (.w 4 [1] (.qs [5] (.w 6 [] .nil)))) mixed ?_ ?_ ?_; kernel_rfl; kernel_rfl) | with_reducible refine callC c1 (fun v2 hv2 => ?_) | with_reducible refine callC c2 (fun v3 hv3 => ?_) | with_reducible refine callC c3 (fun v4 hv4 => ?_) | with_reducible refine callK1 (c4 _ _) hcho ?_ | simp -implicitDefEqProofs (maxSteps := 2000000) (disch := first | assumption | omega) [*, ])
      have hp := ((hv1.trans hv2).trans hv3).trans hv4
      refine aW_for (β := List Nat × List AObj) true cho.length (fun _ p => v <+: p.1) (fun k p => [(47, .int .i64 k), (48, .any), (49, .any), (50, .any), (51, .any), (5, .any), (6, .any), (52, .any), (53, .any), (54, .any), (55, .any), (56, .any), (57, .any), (58, .any)]) (fun _ p => s ++ (.cells [.ref 2 (s.length + 2) 0 fs.length false, .int .i64 mu, row co, row se, row ch, .ref 1 (s.length + (J.length + 3)) 0 cho.length false, .int .i64 th] :: .cells [.nils, .int .i64 0, .nils, .nils, .nils, .nils, .int .i64 0] :: .cells (rowCs fs) :: (J ++ (.cells (rowCs cho) :: p.2)))) (fun _ p => p.1) ?_ ?_
      · exact ⟨(v4, []), hp, by (refine Fits.of ?_ (Off.refl _ _); simp [upd_apply, upds_cons]), rfl, rfl⟩
      rintro k ⟨v5, J2⟩ hk hv5
      by_cases hkl : k < cho.length
      · have h2 := rowL_at hkl
        have hset := set_same1 hkl
        have hle2 : k + 1 ≤ cho.length := by omega
        have hc := (cloneI_f (l := nth cho k) (by have := hrl k hkl; omega)).pure
        repeat' (first | with_reducible refine br_t ?_ | with_reducible refine br_f ?_ | with_reducible refine br_dec (fun _ => ?_) (fun _ => ?_) | with_reducible refine g_dec (fun _ => ?_) (fun _ => ?_) | with_reducible refine g_ndec (fun _ => ?_) (fun _ => ?_) | with_reducible refine br_not (fun _ => ?_) (fun _ => ?_) | with_reducible refine br_split (fun _ => ?_) (fun _ => ?_) | with_reducible refine g_not (fun _ => ?_) (fun _ => ?_) | with_reducible refine g_split (fun _ => ?_) (fun _ => ?_) | with_reducible refine px_dec (fun _ => ?_) (fun _ => ?_) | with_reducible refine px_ndec (fun _ => ?_) (fun _ => ?_) | with_reducible refine px_split (fun _ => ?_) (fun _ => ?_) | (with_reducible refine aWh_draw (own := true) (id := 5) (.qs [0, 1, 2, 3, 4] (.w 5 [1] (.qs [6, 7] (.w 8 [] .nil)))) mixed ?_ ?_ ?_; kernel_rfl; kernel_rfl) | (with_reducible refine aWh_draw (own := true) (id := 7) (.qs [0, 1, 3, 4, 6, 7, 9, 10] (.w 2 [10, 7, 4] (.qs [12] (.w 5 [10, 7] (.w 8 [10] (.w 11 [] (.w 13 [] (.qs [14] (.w 15 [] (.qs [16] (.w 17 [] (.qs [18] (.w 19 [] .nil))))))))))))) mixed ?_ ?_ ?_; kernel_rfl; kernel_rfl) | (with_reducible refine aWh_draw (own := true) (id := 11) (.qs [0, 1, 2, 3] (.w 4 [1] (.qs [5] (.w 6 [] .nil)))) mixed ?_ ?_ ?_; kernel_rfl; kernel_rfl) | with_reducible refine callC hc (fun v6 hv6 => ?_) | simp -implicitDefEqProofs (maxSteps := 2000000) (disch := first | assumption | omega) [*, ])
        exact ⟨hkl, (_, _), hv5.trans hv6, by (refine Fits.of ?_ ?_; rotate_left; (repeat (first | with_reducible exact Off.refl _ _ | refine Off.upd rfl ?_ | refine Off.updO rfl ?_ | refine Off.upds rfl ?_)); simp [upd_apply, upds_cons]), rfl, rfl⟩
      · have : k = cho.length := by omega
        subst this
        simp only at hv5
        repeat' (first | with_reducible refine br_t ?_ | with_reducible refine br_f ?_ | with_reducible refine br_dec (fun _ => ?_) (fun _ => ?_) | with_reducible refine g_dec (fun _ => ?_) (fun _ => ?_) | with_reducible refine g_ndec (fun _ => ?_) (fun _ => ?_) | with_reducible refine br_not (fun _ => ?_) (fun _ => ?_) | with_reducible refine br_split (fun _ => ?_) (fun _ => ?_) | with_reducible refine g_not (fun _ => ?_) (fun _ => ?_) | with_reducible refine g_split (fun _ => ?_) (fun _ => ?_) | with_reducible refine px_dec (fun _ => ?_) (fun _ => ?_) | with_reducible refine px_ndec (fun _ => ?_) (fun _ => ?_) | with_reducible refine px_split (fun _ => ?_) (fun _ => ?_) | (with_reducible refine aWh_draw (own := true) (id := 5) (.qs [0, 1, 2, 3, 4] (.w 5 [1] (.qs [6, 7] (.w 8 [] .nil)))) mixed ?_ ?_ ?_; kernel_rfl; kernel_rfl) | (with_reducible refine aWh_draw (own := true) (id := 7) (.qs [0, 1, 3, 4, 6, 7, 9, 10] (.w 2 [10, 7, 4] (.qs [12] (.w 5 [10, 7] (.w 8 [10] (.w 11 [] (.w 13 [] (.qs [14] (.w 15 [] (.qs [16] (.w 17 [] (.qs [18] (.w 19 [] .nil))))))))))))) mixed ?_ ?_ ?_; kernel_rfl; kernel_rfl) | (with_reducible refine aWh_draw (own := true) (id := 11) (.qs [0, 1, 2, 3] (.w 4 [1] (.qs [5] (.w 6 [] .nil)))) mixed ?_ ?_ ?_; kernel_rfl; kernel_rfl) | simp -implicitDefEqProofs (maxSteps := 2000000) (disch := first | assumption | omega) [*, ])
        have hcne : rowCs cho ≠ [] := by
          intro e
          rw [e] at hro; simp at hro; exact hcho (List.length_eq_zero_iff.1 hro.symm)
        exact .agg _ _ (.cons _ _ _ _ (deep_row (α := Fn_) (by omega) (by simp [get_app]) hfne) (.cons _ _ _ _ (.keep _ rfl) (.cons _ _ _ _ (.keep _ (row_under _)) (.cons _ _ _ _ (.keep _ (row_under _)) (.cons _ _ _ _ (.keep _ (row_under _)) (.cons _ _ _ _ (deep_row (α := List Int) (by omega) (by simp [get_app]) hcne) (.cons _ _ _ _ (.keep _ rfl) .nil)))))))
end Go.Hb
end

