/-
  A layer for reasoning about the program's calls, and contracts of its functions (A). CONDITIONS: none; each theorem bears its own.
-/
import Derived.Test.YtdnbmcnckojglaaTy
import Derived.Test.YtdnbmcnckojglaaL7
set_option linter.unusedVariables false
set_option linter.unusedSimpArgs false
section
namespace Go.Hb
open Go Go.Proofs Go.RowKit
set_option maxRecDepth 100000
set_option maxHeartbeats 800000
attribute [-simp] aC aL aOper aThen aInBlock aIf aPlan aAppend aLen aIndexAddr aSlice aCells aBounds lBr aq initT aev aAppendOwn aAppendNil aAppendNew aAppendRef LV.cells LV.cellsOk getElem?_pos getElem?_neg

theorem around_p {n m : Int} (hn : I64 n) (hm : 0 < m) : PureE Try.prog 11 [.int .i64 n, .int .i64 m] (.int .i64 (around n m)) := by
  obtain ⟨h1, h2⟩ := hn
  refine .of fun s v => ?_
  refine aCalls_go Try.func11 rfl (by decide) Try.ntmps11 (by simp) false ?_
  have hres : Try.f11.results = #[.tmp 4] := rfl
  have : m ≠ 0 := by omega
  repeat' (first | (with_reducible first | refine br_t ?_ | refine br_f ?_ | (first | refine br_dec ?_ ?_ | refine g_dec ?_ ?_ | refine g_ndec ?_ ?_ | refine br_not ?_ ?_ | refine br_split ?_ ?_ | refine g_not ?_ ?_ | refine g_split ?_ ?_ | refine px_dec ?_ ?_ | refine px_ndec ?_ ?_ | refine px_split ?_ ?_) <;> intro _) | simp -implicitDefEqProofs (maxSteps := 2000000) (disch := first | assumption | omega) [*, ])
  · refine EndsE.eq ?_ (by simp)
    rename_i h
    simp only [around, if_pos h]
    rw [← Int.neg_tmod, Int.tmod_eq_emod_of_nonneg (by omega)]
  · refine EndsE.eq ?_ (by simp)
    rename_i h
    simp only [around, if_neg h]
    rw [Int.tmod_eq_emod_of_nonneg (by omega)]
theorem asks_p (op : Int) : PureE Try.prog 27 [.int .i64 op] (.bool (asks op)) := by
  refine .of fun s v => ?_
  refine aCalls_go Try.func27 rfl (by decide) Try.ntmps27 (by simp) false ?_
  have hres : Try.f27.results = #[.tmp 2] := rfl
  repeat' (first | (with_reducible first | refine br_t ?_ | refine br_f ?_ | (first | refine br_dec ?_ ?_ | refine g_dec ?_ ?_ | refine g_ndec ?_ ?_ | refine br_not ?_ ?_ | refine br_split ?_ ?_ | refine g_not ?_ ?_ | refine g_split ?_ ?_ | refine px_dec ?_ ?_ | refine px_ndec ?_ ?_ | refine px_split ?_ ?_) <;> intro _) | simp -implicitDefEqProofs (maxSteps := 2000000) (disch := first | assumption | omega) [*, ])
  all_goals exact EndsE.eq (by simp [asks, *]) (by simp)
theorem most_p {xf xc xs xh xo xl : LV} {fs co se ch cho cl : Nat} (h1 : aLen Try.prog 22 xf = some (.int .i64 fs)) (h2 : aLen Try.prog 23 xc = some (.int .i64 co)) (h3 : aLen Try.prog 23 xs = some (.int .i64 se))
    (h4 : aLen Try.prog 23 xh = some (.int .i64 ch)) (h5 : aLen Try.prog 24 xo = some (.int .i64 cho)) (h6 : aLen Try.prog 50 xl = some (.int .i64 cl)) (hb : cl < 4611686018427387904) (mu th lo op : Int) :
    PureE Try.prog 26 [.agg [xf, .int .i64 mu, xc, xs, xh, xo, .int .i64 th], .agg [.int .i64 lo, xl], .int .i64 op] (.int .i64 (mostL fs mu co se ch cho lo cl op)) := by
  refine .of fun s v => ?_
  refine aCalls_go Try.func26 rfl (by decide) Try.ntmps26 (by simp) false ?_
  have hres : Try.f26.results = #[.tmp 6] := rfl
  repeat' (first | (with_reducible first | refine br_t ?_ | refine br_f ?_ | (first | refine br_dec ?_ ?_ | refine g_dec ?_ ?_ | refine g_ndec ?_ ?_ | refine br_not ?_ ?_ | refine br_split ?_ ?_ | refine g_not ?_ ?_ | refine g_split ?_ ?_ | refine px_dec ?_ ?_ | refine px_ndec ?_ ?_ | refine px_split ?_ ?_) <;> intro _) | simp -implicitDefEqProofs (maxSteps := 2000000) (disch := first | assumption | omega) [*, ])
  all_goals exact EndsE.eqat (by simp [mostL, *]) (by simp)

theorem most_row {fs : List Fn_} {mu th lo op : Int} {co se ch : List Int} {cho : List (List Int)} {cl : List Ins} (hb : cl.length < 4611686018427387904) :
    PureE Try.prog 26 [.agg [row fs, .int .i64 mu, row co, row se, row ch, row cho, .int .i64 th], .agg [.int .i64 lo, row cl], .int .i64 op] (.int .i64 (most ⟨fs, mu, co, se, ch, cho, th⟩ ⟨lo, cl⟩ op)) :=
  most_p (xf := row fs) (xc := row co) (xs := row se) (xh := row ch) (xo := row cho) (xl := row cl) (fs := fs.length) (co := co.length) (se := se.length) (ch := ch.length) (cho := cho.length) (cl := cl.length) (by simp) (by simp) (by simp) (by simp) (by simp) (by simp) hb mu th lo op
end Go.Hb
end

section
namespace Go.Hb
open Go Go.Proofs Go.RowKit
set_option maxRecDepth 100000
set_option maxHeartbeats 800000
attribute [-simp] aC aL aOper aThen aInBlock aIf aPlan aAppend aLen aIndexAddr aSlice aCells aBounds lBr aq initT aev aAppendOwn aAppendNil aAppendNew aAppendRef LV.cells LV.cellsOk getElem?_pos getElem?_neg

theorem things_f {l : List Int} {to : Int} (hl : ∀ x ∈ l, I64 x) (hb : l.length ≤ 9223372036854775807) (ht : to ≤ 1000000000) (ht2 : -1 ≤ to) : Fresh Try.prog 14 [row l, .int .i64 to] (things l to) := by
  refine .of fun s v => ?_
  refine aCalls_go Try.func14 rfl (by decide) Try.ntmps14 (by simp) false ?_
  have hres : Try.f14.results = #[.tmp 4] := rfl
  repeat' (first | (with_reducible first | refine br_t ?_ | refine br_f ?_ | (first | refine br_dec ?_ ?_ | refine g_dec ?_ ?_ | refine g_ndec ?_ ?_ | refine br_not ?_ ?_ | refine br_split ?_ ?_ | refine g_not ?_ ?_ | refine g_split ?_ ?_ | refine px_dec ?_ ?_ | refine px_ndec ?_ ?_ | refine px_split ?_ ?_) <;> intro _) | simp -implicitDefEqProofs (maxSteps := 2000000) (disch := first | assumption | omega) [*, ])
  refine aW_for (β := LV × List Nat) false 4 (fun k p => k ≤ l.length ∧ (k = 0 ∨ 0 ≤ to) ∧ Gro v p.2 ((l.take k).map fun x => around x (to + 1)) p.1) (fun k p => [(5, p.1), (6, .int .i64 k), (7, .any), (8, .any), (9, .any), (10, .any), (11, .any), (12, .any), (13, .any), (14, .any), (15, .any), (16, .any), (17, .any), (18, .any), (21, .any), (22, .any), (23, .any), (24, .any), (25, .any), (26, .any), (27, .any), (28, .any), (29, .any), (30, .any), (19, .any), (20, .any)]) (fun _ _ => s) (fun _ p => p.2) ?_ ?_
  · exact ⟨(.nils, v), ⟨by omega, by simp, by simpa using Gro.nil v⟩, by (refine Fits.of ?_ (Off.refl _ _); simp [upd_apply, upds_cons]), rfl, rfl⟩
  rintro k ⟨x, v1⟩ hk ⟨hk2, hk0, hx⟩
  simp only at hx
  by_cases hlt : k < l.length ∧ k < 4 ∧ 0 ≤ to
  · obtain ⟨h1, h2, h3⟩ := hlt
    have hn : I64 (nth l k) := by rw [nth_eq h1]; exact hl _ (List.getElem_mem h1)
    obtain ⟨x', v', hx', _, ha⟩ := Gro.push (P := Try.prog) (t := 23) (t2 := 23) (sz := 1) (by_ := 8) (by kernel_rfl) rfl (by omega) hx (around (nth l k) (to + 1)) (ds := [.int .i64 (around (nth l k) (to + 1))]) (by simp) (by simp) (by simp; omega)
    repeat' (first | (with_reducible first | refine br_t ?_ | refine br_f ?_ | (first | refine br_dec ?_ ?_ | refine g_dec ?_ ?_ | refine g_ndec ?_ ?_ | refine br_not ?_ ?_ | refine br_split ?_ ?_ | refine g_not ?_ ?_ | refine g_split ?_ ?_ | refine px_dec ?_ ?_ | refine px_ndec ?_ ?_ | refine px_split ?_ ?_) <;> intro _) | with_reducible refine callE (around_p hn (by omega)) ?_ | simp -implicitDefEqProofs (maxSteps := 2000000) (disch := first | assumption | omega) [*, ])
    rotate_left
    · exfalso; omega
    refine ⟨h2, (x', v'), ⟨by omega, .inr h3, ?_⟩, by (refine Fits.of ?_ ?_; rotate_left; (repeat (first | with_reducible exact Off.refl _ _ | refine Off.upd rfl ?_ | refine Off.updO rfl ?_ | refine Off.upds rfl ?_)); simp [upd_apply, upds_cons]), rfl, rfl⟩
    rw [take_succ_nth h1]; simpa using hx'
  · have he : things l to = (l.take k).map fun x => around x (to + 1) := by
      unfold things
      by_cases h0 : to < 0
      · have : k = 0 := by omega
        subst this; simp [h0]
      · rw [if_neg h0]
        have h2 : k = 4 ∨ k = l.length := by omega
        rcases h2 with rfl | rfl
        · rfl
        · rw [List.take_of_length_le (i := 4) (by omega), List.take_of_length_le (i := l.length) (by omega)]
    rw [he]
    have hcond : ¬ (k < l.length ∧ k < 4 ∧ 0 ≤ to) := hlt
    repeat' (first | (with_reducible first | refine br_t ?_ | refine br_f ?_ | (first | refine br_dec ?_ ?_ | refine g_dec ?_ ?_ | refine g_ndec ?_ ?_ | refine br_not ?_ ?_ | refine br_split ?_ ?_ | refine g_not ?_ ?_ | refine g_split ?_ ?_ | refine px_dec ?_ ?_ | refine px_ndec ?_ ?_ | refine px_split ?_ ?_) <;> intro _) | simp -implicitDefEqProofs (maxSteps := 2000000) (disch := first | assumption | omega) [*, ])
    all_goals first | (exfalso; omega) | simpa using hx
theorem instrOf_p {xf xc xs xh xo xl : LV} {fs co se ch cho cl : Nat} (h1 : aLen Try.prog 22 xf = some (.int .i64 fs)) (h2 : aLen Try.prog 23 xc = some (.int .i64 co)) (h3 : aLen Try.prog 23 xs = some (.int .i64 se))
    (h4 : aLen Try.prog 23 xh = some (.int .i64 ch)) (h5 : aLen Try.prog 24 xo = some (.int .i64 cho)) (h6 : aLen Try.prog 50 xl = some (.int .i64 cl)) (hb : cl < 4611686018427387904) (mu th lo op a : Int) (ho : I64 op) (ha : I64 a) (hmu : 0 ≤ mu) (hlo : 0 ≤ lo) :
    PureE Try.prog 15 [.agg [xf, .int .i64 mu, xc, xs, xh, xo, .int .i64 th], .agg [.int .i64 lo, xl], .agg [.int .i64 op, .int .i64 a]] (.agg (let op' := around op 27; let m := mostL fs mu co se ch cho lo cl op';
      if asks op' = false then [.int .i64 op', .int .i64 0] else if m = 0 then [.int .i64 12, .int .i64 0] else if op' = 0 then [.int .i64 0, .int .i64 (a.tmod 1000)] else [.int .i64 op', .int .i64 (around a m)])) := by
  refine .of fun s v => ?_
  refine aCalls_go Try.func15 rfl (by decide) Try.ntmps15 (by simp) false ?_
  have hres : Try.f15.results = #[.cell 6 54] := rfl
  have hm := fun op => most_p h1 h2 h3 h4 h5 h6 hb mu th lo op
  have hpos : 0 ≤ mostL fs mu co se ch cho lo cl (around op 27) := by unfold mostL; repeat' split <;> omega
  generalize hop : around op 27 = op' at *
  generalize hmm : mostL fs mu co se ch cho lo cl op' = m at *
  by_cases hm0 : m = 0
  all_goals cases hk : asks op'
  all_goals
    repeat' (first | (with_reducible first | refine br_t ?_ | refine br_f ?_ | (first | refine br_dec ?_ ?_ | refine g_dec ?_ ?_ | refine g_ndec ?_ ?_ | refine br_not ?_ ?_ | refine br_split ?_ ?_ | refine g_not ?_ ?_ | refine g_split ?_ ?_ | refine px_dec ?_ ?_ | refine px_ndec ?_ ?_ | refine px_split ?_ ?_) <;> intro _) | with_reducible refine callE (around_p ho (by omega)) ?_ | with_reducible refine callE (asks_p _) ?_ | with_reducible refine callE (hm _) ?_ | with_reducible refine callE (around_p ha (by omega)) ?_ | simp -implicitDefEqProofs (maxSteps := 2000000) (disch := first | assumption | omega) [*, ])
  all_goals first | (exfalso; omega) | (refine EndsE.eqat ?_ (by simp); simp [*]; done) | (refine EndsE.eqat ?_ (by simp); simp [*, asks, mostL]; done)
end Go.Hb
end

