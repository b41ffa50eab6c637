/-
  A layer for reasoning about the program's calls, and contracts of its functions (MC). CONDITIONS: none; each theorem bears its own.
-/
import Derived.Test.YtdnbmcnckojglaaMB
set_option linter.unusedVariables false
set_option linter.unusedSimpArgs false
namespace Go.Hb
open Go Go.Proofs Go.RowKit
set_option maxRecDepth 100000
set_option maxHeartbeats 800000
attribute [-simp] aC aL aOper aThen aInBlock aIf aPlan aAppend aLen aIndexAddr aSlice aCells aBounds lBr aq initT aev aAppendOwn aAppendNil aAppendNew aAppendRef LV.cells LV.cellsOk getElem?_pos getElem?_neg
attribute [local simp] Thr.lv Req.lv Ins.lv Prog.lv thrEnd
theorem pureC_eq {P : Program} {f : FuncId} {args : List LV} {y z : LV} (h : PureC P f args y) (e : y = z) : PureC P f args z := e ▸ h
theorem thr_weak {st on co : Int} {x y : LV} {fr : List Frm} {sk : List Int} (h1 : Weak x (row fr)) (h2 : Weak y (row sk)) : Weak (.agg [.int .i64 st, .int .i64 on, x, y, .int .i64 co]) (.agg [.int .i64 st, .int .i64 on, row fr, row sk, .int .i64 co]) :=
  Weak.agg ⟨Weak.refl _, Weak.refl _, h1, h2, Weak.refl _, trivial⟩

theorem ends_p (c : Int) : PureE Try.prog 36 [.int .i64 c] (.tup [.agg (ends c).1.lv, .agg (ends c).2.lv]) := by
  refine .of fun s v => ?_
  refine aCalls_go Try.func36 rfl (by decide) Try.ntmps36 (by simp) false ?_
  have hres : Try.f36.results = #[.cell 2 44, .cell 3 78] := rfl
  have he := thrEnd_p c
  simp only [Thr.lv, thrEnd] at he
  repeat' (first | (with_reducible first | refine br_t ?_ | refine br_f ?_ | (first | refine br_dec ?_ ?_ | refine g_dec ?_ ?_ | refine g_ndec ?_ ?_ | refine br_not ?_ ?_ | refine br_split ?_ ?_ | refine g_not ?_ ?_ | refine g_split ?_ ?_ | refine px_dec ?_ ?_ | refine px_ndec ?_ ?_ | refine px_split ?_ ?_) <;> intro _) | with_reducible refine callE he ?_ | simp -implicitDefEqProofs (maxSteps := 2000000) (disch := first | assumption | omega) [*, ])
  exact EndsE.eqat rfl (by simp)
theorem needs_p (op : Int) : PureE Try.prog 38 [.int .i64 op] (.int .i64 (needs op)) := by
  refine .of fun s v => ?_
  refine aCalls_go Try.func38 rfl (by decide) Try.ntmps38 (by simp) false ?_
  have hres : Try.f38.results = #[.tmp 2] := rfl
  repeat' (first | (with_reducible first | refine br_t ?_ | refine br_f ?_ | (first | refine br_dec ?_ ?_ | refine g_dec ?_ ?_ | refine g_ndec ?_ ?_ | refine br_not ?_ ?_ | refine br_split ?_ ?_ | refine g_not ?_ ?_ | refine g_split ?_ ?_ | refine px_dec ?_ ?_ | refine px_ndec ?_ ?_ | refine px_split ?_ ?_) <;> intro _) | simp -implicitDefEqProofs (maxSteps := 2000000) (disch := first | assumption | omega) [*, ])
  all_goals exact EndsE.eq (by simp [needs, *]) (by simp)
theorem kind_p (op : Int) : PureE Try.prog 40 [.int .i64 op] (.int .i64 (kindOf op)) := by
  refine .of fun s v => ?_
  refine aCalls_go Try.func40 rfl (by decide) Try.ntmps40 (by simp) false ?_
  have hres : Try.f40.results = #[.tmp 2] := rfl
  repeat' (first | (with_reducible first | refine br_t ?_ | refine br_f ?_ | (first | refine br_dec ?_ ?_ | refine g_dec ?_ ?_ | refine g_ndec ?_ ?_ | refine br_not ?_ ?_ | refine br_split ?_ ?_ | refine g_not ?_ ?_ | refine g_split ?_ ?_ | refine px_dec ?_ ?_ | refine px_ndec ?_ ?_ | refine px_split ?_ ?_) <;> intro _) | simp -implicitDefEqProofs (maxSteps := 2000000) (disch := first | assumption | omega) [*, ])
  all_goals exact EndsE.eq (by simp [kindOf, *]) (by simp)
theorem pushed_p (t : Thr) (hb : ThrB t) (x : Int) : PureC Try.prog 41 [.agg t.lv, .int .i64 x] (.tup [.agg (pushed t x).1.lv, .agg (pushed t x).2.lv]) := by
  refine .of fun s v => ?_
  have hp : PureC Try.prog 42 [.agg t.lv, .int .i64 x] (.tup [.agg (push t x).1.lv, .bool (push t x).2]) := push_p (fr := t.frames) (sk := t.stack) hb
  have he := ends_p 2
  unfold pushed
  generalize push t x = q at *
  obtain ⟨t', is⟩ := q
  simp only [Thr.lv, Req.lv, ends] at hp he ⊢
  refine aCalls_go Try.func41 rfl (by decide) Try.ntmps41 (by simp) false ?_
  have hres : Try.f41.results = #[.cell 4 44, .cell 5 78] := rfl
  cases is
  · repeat' (first | (with_reducible first | refine br_t ?_ | refine br_f ?_ | (first | refine br_dec ?_ ?_ | refine g_dec ?_ ?_ | refine g_ndec ?_ ?_ | refine br_not ?_ ?_ | refine br_split ?_ ?_ | refine g_not ?_ ?_ | refine g_split ?_ ?_ | refine px_dec ?_ ?_ | refine px_ndec ?_ ?_ | refine px_split ?_ ?_) <;> intro _) | with_reducible refine callC hp (fun v1 hv1 => ?_) | with_reducible refine callE he ?_ | simp -implicitDefEqProofs (maxSteps := 2000000) (disch := first | assumption | omega) [*, ])
    exact Ends.eqat rfl (by simp) hv1
  · repeat' (first | (with_reducible first | refine br_t ?_ | refine br_f ?_ | (first | refine br_dec ?_ ?_ | refine g_dec ?_ ?_ | refine g_ndec ?_ ?_ | refine br_not ?_ ?_ | refine br_split ?_ ?_ | refine g_not ?_ ?_ | refine g_split ?_ ?_ | refine px_dec ?_ ?_ | refine px_ndec ?_ ?_ | refine px_split ?_ ?_) <;> intro _) | with_reducible refine callC hp (fun v1 hv1 => ?_) | simp -implicitDefEqProofs (maxSteps := 2000000) (disch := first | assumption | omega) [*, ])
    exact Ends.eqat rfl (by simp) hv1
theorem tell_p (t : Thr) (hb : ThrB t) (l : List Int) (hl : l.length ≤ 1000) : PureC Try.prog 82 [.agg t.lv, row l] (.tup [.agg (thrTell t l).1.lv, .bool (thrTell t l).2]) := by
  refine .of fun s v => ?_
  have he := thrEnd_p 2
  simp only [Thr.lv, thrEnd] at he
  refine aCalls_go Try.func82 rfl (by decide) Try.ntmps82 (by simp) false ?_
  have hres : Try.f82.results = #[.cell 4 44, .tmp 5] := rfl
  simp only [Thr.lv]
  repeat' (first | (with_reducible first | refine br_t ?_ | refine br_f ?_ | (first | refine br_dec ?_ ?_ | refine g_dec ?_ ?_ | refine g_ndec ?_ ?_ | refine br_not ?_ ?_ | refine br_split ?_ ?_ | refine g_not ?_ ?_ | refine g_split ?_ ?_ | refine px_dec ?_ ?_ | refine px_ndec ?_ ?_ | refine px_split ?_ ?_) <;> intro _) | (with_reducible refine aWh_draw (own := false) (id := 5) (.qs [0, 1, 2, 3, 4] (.or (.w 5 [] (.qs [6, 7, 8] (.w 9 [] (.w 10 [] (.qs [11] .nil))))) (.w 9 [4, 0] (.w 5 [] (.qs [6, 7, 8] (.w 10 [] (.qs [11] .nil))))))) mixed ?_ ?_ ?_; kernel_rfl; kernel_rfl) | simp -implicitDefEqProofs (maxSteps := 2000000) (disch := first | assumption | omega) [*, ])
  refine aW_for (β := Thr × List AObj × List Nat) false l.length (fun k p => v <+: p.2.2 ∧ ThrB p.1 ∧ thrTell t l = thrTell p.1 (l.drop k)) (fun k p => [(7, .int .i64 k), (11, .any), (12, .any), (13, .any), (14, .any), (18, .any), (19, .any), (20, .any), (21, .any), (22, .any), (23, .any), (17, .any), (24, .any), (25, .any), (8, .any), (9, .any), (26, .any), (27, .any), (28, .any), (5, .any), (29, .any), (15, .any), (16, .any)]) (fun _ p => s ++ (.cells [.int .i64 t.state, .int .i64 t.on, row t.frames, row t.stack, .int .i64 t.code] :: .cells [.int .i64 0, .int .i64 0, .nils, .nils, .int .i64 0] :: .cells [.int .i64 p.1.state, .int .i64 p.1.on, row p.1.frames, row p.1.stack, .int .i64 p.1.code] :: p.2.1)) (fun _ p => p.2.2) ?_ ?_
  · exact ⟨(t, [], v), ⟨List.prefix_refl _, hb, rfl⟩, by (refine Fits.of ?_ (Off.refl _ _); simp [upd_apply, upds_cons]), rfl, rfl⟩
  rintro k ⟨t1, J, v1⟩ hk ⟨hv1, hb1, hI⟩
  simp only at hv1 hb1 hI
  by_cases hlt : k < l.length
  · have hx := ix_in (l := l) (i := (k : Int)) (by omega) (by omega)
    have hp : PureC Try.prog 42 [.agg t1.lv, .int .i64 (nth l k)] (.tup [.agg (push t1 (nth l k)).1.lv, .bool (push t1 (nth l k)).2]) := push_p (fr := t1.frames) (sk := t1.stack) hb1
    have hpb := push_b hb1 (nth l k)
    rw [drop_nth hlt, thrTell] at hI
    generalize push t1 (nth l k) = q at *
    obtain ⟨t', is⟩ := q
    simp only [Thr.lv] at hp hI hpb
    cases is
    · simp only [Bool.false_eq_true, if_false] at hI
      rw [hI]
      repeat' (first | (with_reducible first | refine br_t ?_ | refine br_f ?_ | (first | refine br_dec ?_ ?_ | refine g_dec ?_ ?_ | refine g_ndec ?_ ?_ | refine br_not ?_ ?_ | refine br_split ?_ ?_ | refine g_not ?_ ?_ | refine g_split ?_ ?_ | refine px_dec ?_ ?_ | refine px_ndec ?_ ?_ | refine px_split ?_ ?_) <;> intro _) | (with_reducible refine aWh_draw (own := false) (id := 5) (.qs [0, 1, 2, 3, 4] (.or (.w 5 [] (.qs [6, 7, 8] (.w 9 [] (.w 10 [] (.qs [11] .nil))))) (.w 9 [4, 0] (.w 5 [] (.qs [6, 7, 8] (.w 10 [] (.qs [11] .nil))))))) mixed ?_ ?_ ?_; kernel_rfl; kernel_rfl) | with_reducible refine andC ?_ ?_ | with_reducible refine callC hp (fun v2 hv2 => ?_) | with_reducible refine callE he ?_ | simp -implicitDefEqProofs (maxSteps := 2000000) (disch := first | assumption | omega) [*, ])
      all_goals exact Ends.eqat rfl (by simp) (hv1.trans hv2)
    · simp only [if_true] at hI
      repeat' (first | (with_reducible first | refine br_t ?_ | refine br_f ?_ | (first | refine br_dec ?_ ?_ | refine g_dec ?_ ?_ | refine g_ndec ?_ ?_ | refine br_not ?_ ?_ | refine br_split ?_ ?_ | refine g_not ?_ ?_ | refine g_split ?_ ?_ | refine px_dec ?_ ?_ | refine px_ndec ?_ ?_ | refine px_split ?_ ?_) <;> intro _) | (with_reducible refine aWh_draw (own := false) (id := 5) (.qs [0, 1, 2, 3, 4] (.or (.w 5 [] (.qs [6, 7, 8] (.w 9 [] (.w 10 [] (.qs [11] .nil))))) (.w 9 [4, 0] (.w 5 [] (.qs [6, 7, 8] (.w 10 [] (.qs [11] .nil))))))) mixed ?_ ?_ ?_; kernel_rfl; kernel_rfl) | with_reducible refine andC ?_ ?_ | with_reducible refine callC hp (fun v2 hv2 => ?_) | simp -implicitDefEqProofs (maxSteps := 2000000) (disch := first | assumption | omega) [*, ])
      all_goals exact ⟨hlt, (t', J ++ [.cells [.int .i64 t'.state, .int .i64 t'.on, row t'.frames, row t'.stack, .int .i64 t'.code]], v2), ⟨hv1.trans hv2, hpb, hI⟩, by (refine Fits.of ?_ ?_; rotate_left; (repeat (first | with_reducible exact Off.refl _ _ | refine Off.upd rfl ?_ | refine Off.updO rfl ?_ | refine Off.upds rfl ?_)); simp [upd_apply, upds_cons]), by simp, rfl⟩
  · have : k = l.length := by omega
    subst this
    rw [List.drop_length, thrTell] at hI
    rw [hI]
    repeat' (first | (with_reducible first | refine br_t ?_ | refine br_f ?_ | (first | refine br_dec ?_ ?_ | refine g_dec ?_ ?_ | refine g_ndec ?_ ?_ | refine br_not ?_ ?_ | refine br_split ?_ ?_ | refine g_not ?_ ?_ | refine g_split ?_ ?_ | refine px_dec ?_ ?_ | refine px_ndec ?_ ?_ | refine px_split ?_ ?_) <;> intro _) | (with_reducible refine aWh_draw (own := false) (id := 5) (.qs [0, 1, 2, 3, 4] (.or (.w 5 [] (.qs [6, 7, 8] (.w 9 [] (.w 10 [] (.qs [11] .nil))))) (.w 9 [4, 0] (.w 5 [] (.qs [6, 7, 8] (.w 10 [] (.qs [11] .nil))))))) mixed ?_ ?_ ?_; kernel_rfl; kernel_rfl) | simp -implicitDefEqProofs (maxSteps := 2000000) (disch := first | assumption | omega) [*, ])
    exact Ends.eqat rfl (by simp) hv1
end Go.Hb
