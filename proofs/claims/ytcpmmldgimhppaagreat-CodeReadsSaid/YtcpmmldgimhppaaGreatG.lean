/-
  A layer for reasoning about the program's calls, and contracts of its functions (G). CONDITIONS: none; each theorem bears its own.
-/
import Derived.Test.YtcpmmldgimhppaaGreatF
import Derived.Test.YtcpmmldgimhppaaGreatD
set_option linter.unusedVariables false
set_option linter.unusedSimpArgs false
section
namespace Go.Hb
open Go Go.Proofs Go.RowKit
set_option maxRecDepth 100000
set_option maxHeartbeats 800000
attribute [-simp] aC aL aOper aThen aInBlock aIf aPlan aAppend aLen aIndexAddr aSlice aCells aBounds lBr aq initT aev aAppendOwn aAppendNil aAppendNew aAppendRef LV.cells LV.cellsOk getElem?_pos getElem?_neg

set_option maxHeartbeats 20000000 in
theorem cinstr_p {fs : List Fn_} {mu th lo op a : Int} {co se ch : List Int} {cho : List (List Int)} {cl : List Ins} (hb : cl.length < 4611686018427387904) :
    PureE Tryz.prog 69 [.agg [row fs, .int .i64 mu, row co, row se, row ch, row cho, .int .i64 th], .agg [.int .i64 lo, row cl], .agg [.int .i64 op, .int .i64 a]] (.bool (mayI ⟨fs, mu, co, se, ch, cho, th⟩ ⟨lo, cl⟩ ⟨op, a⟩)) := by
  refine .of fun s v => ?_
  by_cases hop : 0 ≤ op ∧ op < 27
  · have : op = 0 ∨ op = 1 ∨ op = 2 ∨ op = 3 ∨ op = 4 ∨ op = 5 ∨ op = 6 ∨ op = 7 ∨ op = 8 ∨ op = 9 ∨ op = 10 ∨ op = 11 ∨ op = 12 ∨ op = 13 ∨ op = 14 ∨ op = 15 ∨ op = 16 ∨ op = 17 ∨ op = 18 ∨ op = 19 ∨ op = 20 ∨ op = 21 ∨ op = 22 ∨ op = 23 ∨ op = 24 ∨ op = 25 ∨ op = 26 := by omega
    unfold mayI most mostL asks
    rcases this with rfl | rfl | rfl | rfl | rfl | rfl | rfl | rfl | rfl | rfl | rfl | rfl | rfl | rfl | rfl | rfl | rfl | rfl | rfl | rfl | rfl | rfl | rfl | rfl | rfl | rfl | rfl
    all_goals
      clear hop
      refine aCalls_go Tryz.func69 rfl (by decide) Tryz.ntmps69 (by simp) false ?_
      have hres : Tryz.f69.results = #[.tmp 6] := rfl
      repeat' (first | with_reducible refine br_t ?_ | with_reducible refine br_f ?_ | with_reducible refine br_dec (fun _ => ?_) (fun _ => ?_) | with_reducible refine g_dec (fun _ => ?_) (fun _ => ?_) | with_reducible refine g_ndec (fun _ => ?_) (fun _ => ?_) | with_reducible refine br_not (fun _ => ?_) (fun _ => ?_) | with_reducible refine br_split (fun _ => ?_) (fun _ => ?_) | with_reducible refine g_not (fun _ => ?_) (fun _ => ?_) | with_reducible refine g_split (fun _ => ?_) (fun _ => ?_) | with_reducible refine px_dec (fun _ => ?_) (fun _ => ?_) | with_reducible refine px_ndec (fun _ => ?_) (fun _ => ?_) | with_reducible refine px_split (fun _ => ?_) (fun _ => ?_) | (with_reducible refine aWh_draw (own := false) (id := 3) (.qs [1, 2] (.w 0 [2] (.qs [3, 4, 5] .nil))) mixed ?_ ?_ ?_; kernel_rfl; kernel_rfl) | (with_reducible refine aWh_draw (own := false) (id := 8) (.qs [0, 1, 2, 3, 4, 5, 6, 7, 8] (.w 9 [5] (.qs [10, 11, 12] .nil))) mixed ?_ ?_ ?_; kernel_rfl; kernel_rfl) | with_reducible refine callE (is_p _) ?_ | with_reducible refine callE ops_p ?_ | with_reducible refine callE (ops1_p) ?_ | with_reducible refine callE (ops2_p hb) ?_ | with_reducible refine callE (ops3_p) ?_ | with_reducible refine callE (ops4_p) ?_ | with_reducible refine callE (ops5_p) ?_ | with_reducible refine callE (ops6_p) ?_ | with_reducible refine callE (ops7_p) ?_ | with_reducible refine callE (ops8_p) ?_ | with_reducible refine callE (ops9_p) ?_ | simp -implicitDefEqProofs (maxSteps := 2000000) (disch := first | assumption | omega) [*, ])
    all_goals first | (exfalso; omega) | (first | (exfalso; omega) | ((try subst_vars); (first | refine EndsE.eq ?_ (by simp) | refine EndsE.eqat ?_ (by simp)); (first | with_reducible rfl | (simp [*, ]; done) | (simp [*, ]; omega) | (simp only [LV.bool.injEq]; rw [Bool.eq_iff_iff]; simp [*, ]; done) | (simp only [LV.bool.injEq]; rw [Bool.eq_iff_iff]; simp [*, ]; omega) | (simp only [LV.bool.injEq]; rw [Bool.eq_iff_iff]; simp (disch := omega) only [if_pos, if_neg, if_true, if_false, *, ]; simp <;> omega) | (simp only [LV.bool.injEq, Bool.and_eq_false_imp, Bool.and_eq_true, decide_eq_true_eq]; intros; exfalso; omega) | (simp only [LV.bool.injEq, Bool.and_eq_false_imp, Bool.and_eq_true, decide_eq_true_eq]; intros; simp_all; done))))
  · have hm : mayI ⟨fs, mu, co, se, ch, cho, th⟩ ⟨lo, cl⟩ ⟨op, a⟩ = false := by
      unfold mayI
      have : (decide (0 ≤ op) && decide (op ≤ 26)) = false := by simp; omega
      rw [this, Bool.false_and]
    have hi : (decide (0 ≤ op) && decide (op < 27)) = false := by simp; omega
    rw [hm]
    have his := is_p op
    rw [hi] at his
    refine aCalls_go Tryz.func69 rfl (by decide) Tryz.ntmps69 (by simp) false ?_
    have hres : Tryz.f69.results = #[.tmp 6] := rfl
    repeat' (first | with_reducible refine br_t ?_ | with_reducible refine br_f ?_ | with_reducible refine br_dec (fun _ => ?_) (fun _ => ?_) | with_reducible refine g_dec (fun _ => ?_) (fun _ => ?_) | with_reducible refine g_ndec (fun _ => ?_) (fun _ => ?_) | with_reducible refine br_not (fun _ => ?_) (fun _ => ?_) | with_reducible refine br_split (fun _ => ?_) (fun _ => ?_) | with_reducible refine g_not (fun _ => ?_) (fun _ => ?_) | with_reducible refine g_split (fun _ => ?_) (fun _ => ?_) | with_reducible refine px_dec (fun _ => ?_) (fun _ => ?_) | with_reducible refine px_ndec (fun _ => ?_) (fun _ => ?_) | with_reducible refine px_split (fun _ => ?_) (fun _ => ?_) | (with_reducible refine aWh_draw (own := false) (id := 3) (.qs [1, 2] (.w 0 [2] (.qs [3, 4, 5] .nil))) mixed ?_ ?_ ?_; kernel_rfl; kernel_rfl) | (with_reducible refine aWh_draw (own := false) (id := 8) (.qs [0, 1, 2, 3, 4, 5, 6, 7, 8] (.w 9 [5] (.qs [10, 11, 12] .nil))) mixed ?_ ?_ ?_; kernel_rfl; kernel_rfl) | with_reducible refine callE his ?_ | simp -implicitDefEqProofs (maxSteps := 2000000) (disch := first | assumption | omega) [*, ])
    all_goals exact EndsE.eqat rfl (by simp)
end Go.Hb
end

section
namespace Go.Hb
open Go Go.Proofs Go.RowKit
set_option maxRecDepth 100000
set_option maxHeartbeats 800000
attribute [-simp] aC aL aOper aThen aInBlock aIf aPlan aAppend aLen aIndexAddr aSlice aCells aBounds lBr aq initT aev aAppendOwn aAppendNil aAppendNew aAppendRef LV.cells LV.cellsOk getElem?_pos getElem?_neg

theorem may21_r {fs : List Fn_} {mu th lo : Int} {co se ch : List Int} {cho : List (List Int)} {cl : List Ins} {s : List AObj} {i1 i2 : Nat} (hb : cl.length < 4611686018427387904) (h1 : s[i1]? = some (.cells [row fs, .int .i64 mu, row co, row se, row ch, row cho, .int .i64 th])) (h2 : s[i2]? = some (.cells [.int .i64 lo, row cl])) (op a : Int) :
    Ret Tryz.prog 68 (.agg [.int .i64 op, .int .i64 a] :: [.ptr i1 0, .ptr i2 0]) s (.bool (!mayI ⟨fs, mu, co, se, ch, cho, th⟩ ⟨lo, cl⟩ ⟨op, a⟩)) := by
  refine .of fun v => ?_
  have l1 := (List.getElem?_eq_some_iff.1 h1).1
  have l2 := (List.getElem?_eq_some_iff.1 h2).1
  have h1' : ∀ J, (s ++ J)[i1]? = some (.cells [row fs, .int .i64 mu, row co, row se, row ch, row cho, .int .i64 th]) := fun J => by rw [List.getElem?_append_left l1]; exact h1
  have h2' : ∀ J, (s ++ J)[i2]? = some (.cells [.int .i64 lo, row cl]) := fun J => by rw [List.getElem?_append_left l2]; exact h2
  refine aCalls_go Tryz.func68 rfl (by decide) Tryz.ntmps68 (by simp) false ?_
  have hres : Tryz.f68.results = #[.tmp 4] := rfl
  repeat' (first | with_reducible refine br_t ?_ | with_reducible refine br_f ?_ | with_reducible refine br_dec (fun _ => ?_) (fun _ => ?_) | with_reducible refine g_dec (fun _ => ?_) (fun _ => ?_) | with_reducible refine g_ndec (fun _ => ?_) (fun _ => ?_) | with_reducible refine br_not (fun _ => ?_) (fun _ => ?_) | with_reducible refine br_split (fun _ => ?_) (fun _ => ?_) | with_reducible refine g_not (fun _ => ?_) (fun _ => ?_) | with_reducible refine g_split (fun _ => ?_) (fun _ => ?_) | with_reducible refine px_dec (fun _ => ?_) (fun _ => ?_) | with_reducible refine px_ndec (fun _ => ?_) (fun _ => ?_) | with_reducible refine px_split (fun _ => ?_) (fun _ => ?_) | with_reducible refine callE (cinstr_p hb) ?_ | simp -implicitDefEqProofs (maxSteps := 2000000) (disch := first | assumption | omega) [*, ])
  exact Ends.eqat rfl (by simp) (List.prefix_refl _)
theorem may2_r {fs : List Fn_} {mu th : Int} {co se ch : List Int} {cho : List (List Int)} {s : List AObj} {i1 : Nat} (h1 : s[i1]? = some (.cells [row fs, .int .i64 mu, row co, row se, row ch, row cho, .int .i64 th])) (f : Fn_) :
    Ret Tryz.prog 66 (.agg [.int .i64 f.locals, row f.code] :: [.ptr i1 0]) s (.bool (!mayF ⟨fs, mu, co, se, ch, cho, th⟩ f)) := by
  refine .of fun v => ?_
  have l1 := (List.getElem?_eq_some_iff.1 h1).1
  have h1' : ∀ J, (s ++ J)[i1]? = some (.cells [row fs, .int .i64 mu, row co, row se, row ch, row cho, .int .i64 th]) := fun J => by rw [List.getElem?_append_left l1]; exact h1
  have hw : PureC Tryz.prog 61 [.int .i64 8, .imm 1 1 [.int .i64 f.locals] .full] (.bool (allTo [f.locals] 8)) := fun s v => aCalls_argw (args' := [.int .i64 8, row [f.locals]]) (by simp; exact Weak.cells (Weaks.refl _)) (within_p (by simp) s v)
  have hm : mayF ⟨fs, mu, co, se, ch, cho, th⟩ f = (allTo [f.locals] 8 && decide (f.code.length ≤ 64) && f.code.all (mayI ⟨fs, mu, co, se, ch, cho, th⟩ f)) := by
    unfold mayF allTo; simp
  have hall : (!f.code.all (mayI ⟨fs, mu, co, se, ch, cho, th⟩ f)) = f.code.any fun i => !mayI ⟨fs, mu, co, se, ch, cho, th⟩ f i := by rw [List.not_all_eq_any_not]
  rw [hm]
  by_cases hl : f.code.length ≤ 64
  · have hc := containsFunc_ins (l := f.code) (p := fun i => !mayI ⟨fs, mu, co, se, ch, cho, th⟩ f i) (g := 68) (ca := [.ptr i1 0, .ptr s.length 0]) (s := s ++ [.cells [.int .i64 f.locals, row f.code]]) (by omega) (fun k hk => may21_r (lo := f.locals) (cl := f.code) (by omega) (h1' _) (by simp [get_app0]) _ _)
    rw [← hall] at hc
    clear hall hm
    generalize f.code.all (mayI ⟨fs, mu, co, se, ch, cho, th⟩ f) = b2 at *
    generalize allTo [f.locals] 8 = b1 at *
    refine aCalls_go Tryz.func66 rfl (by decide) Tryz.ntmps66 (by simp) false ?_
    have hres : Tryz.f66.results = #[.tmp 3] := rfl
    cases b1
    all_goals
      repeat' (first | with_reducible refine br_t ?_ | with_reducible refine br_f ?_ | with_reducible refine br_dec (fun _ => ?_) (fun _ => ?_) | with_reducible refine g_dec (fun _ => ?_) (fun _ => ?_) | with_reducible refine g_ndec (fun _ => ?_) (fun _ => ?_) | with_reducible refine br_not (fun _ => ?_) (fun _ => ?_) | with_reducible refine br_split (fun _ => ?_) (fun _ => ?_) | with_reducible refine g_not (fun _ => ?_) (fun _ => ?_) | with_reducible refine g_split (fun _ => ?_) (fun _ => ?_) | with_reducible refine px_dec (fun _ => ?_) (fun _ => ?_) | with_reducible refine px_ndec (fun _ => ?_) (fun _ => ?_) | with_reducible refine px_split (fun _ => ?_) (fun _ => ?_) | with_reducible refine callC hw (fun v1 hv1 => ?_) | with_reducible refine callR hc (fun v2 hv2 => ?_) | simp -implicitDefEqProofs (maxSteps := 2000000) (disch := first | assumption | omega) [*, ])
    all_goals first | (exfalso; omega) | exact Ends.eqat (by simp [hl]) (by simp) (by first | exact hv1.trans hv2 | exact hv1)
  · have hd : decide (f.code.length ≤ 64) = false := by simp; omega
    rw [hd]
    clear hall hm
    generalize allTo [f.locals] 8 = b1 at *
    refine aCalls_go Tryz.func66 rfl (by decide) Tryz.ntmps66 (by simp) false ?_
    have hres : Tryz.f66.results = #[.tmp 3] := rfl
    cases b1
    all_goals
      repeat' (first | with_reducible refine br_t ?_ | with_reducible refine br_f ?_ | with_reducible refine br_dec (fun _ => ?_) (fun _ => ?_) | with_reducible refine g_dec (fun _ => ?_) (fun _ => ?_) | with_reducible refine g_ndec (fun _ => ?_) (fun _ => ?_) | with_reducible refine br_not (fun _ => ?_) (fun _ => ?_) | with_reducible refine br_split (fun _ => ?_) (fun _ => ?_) | with_reducible refine g_not (fun _ => ?_) (fun _ => ?_) | with_reducible refine g_split (fun _ => ?_) (fun _ => ?_) | with_reducible refine px_dec (fun _ => ?_) (fun _ => ?_) | with_reducible refine px_ndec (fun _ => ?_) (fun _ => ?_) | with_reducible refine px_split (fun _ => ?_) (fun _ => ?_) | with_reducible refine callC hw (fun v1 hv1 => ?_) | simp -implicitDefEqProofs (maxSteps := 2000000) (disch := first | assumption | omega) [*, ])
    all_goals first | (exfalso; omega) | exact Ends.eqat (by simp) (by simp) hv1
theorem may1_r {fs : List Fn_} {mu th : Int} {co se ch : List Int} {cho : List (List Int)} {s : List AObj} {i1 : Nat} (h1 : s[i1]? = some (.cells [row fs, .int .i64 mu, row co, row se, row ch, row cho, .int .i64 th])) (l : List Int)
    (hc : PureC Tryz.prog 64 [.agg [row fs, .int .i64 mu, row co, row se, row ch, row cho, .int .i64 th], row l] (.bool (mayCh ⟨fs, mu, co, se, ch, cho, th⟩ l))) :
    Ret Tryz.prog 63 (row l :: [.ptr i1 0]) s (.bool (!mayCh ⟨fs, mu, co, se, ch, cho, th⟩ l)) := by
  refine .of fun v => ?_
  refine aCalls_go Tryz.func63 rfl (by decide) Tryz.ntmps63 (by simp) false ?_
  have hres : Tryz.f63.results = #[.tmp 3] := rfl
  repeat' (first | with_reducible refine br_t ?_ | with_reducible refine br_f ?_ | with_reducible refine br_dec (fun _ => ?_) (fun _ => ?_) | with_reducible refine g_dec (fun _ => ?_) (fun _ => ?_) | with_reducible refine g_ndec (fun _ => ?_) (fun _ => ?_) | with_reducible refine br_not (fun _ => ?_) (fun _ => ?_) | with_reducible refine br_split (fun _ => ?_) (fun _ => ?_) | with_reducible refine g_not (fun _ => ?_) (fun _ => ?_) | with_reducible refine g_split (fun _ => ?_) (fun _ => ?_) | with_reducible refine px_dec (fun _ => ?_) (fun _ => ?_) | with_reducible refine px_ndec (fun _ => ?_) (fun _ => ?_) | with_reducible refine px_split (fun _ => ?_) (fun _ => ?_) | with_reducible refine callC hc (fun v1 hv1 => ?_) | simp -implicitDefEqProofs (maxSteps := 2000000) (disch := first | assumption | omega) [*, ])
  exact Ends.eq rfl (by simp) hv1
end Go.Hb
end

section
namespace Go.Hb
open Go Go.Proofs Go.RowKit
set_option maxRecDepth 100000
set_option maxHeartbeats 800000
attribute [-simp] aC aL aOper aThen aInBlock aIf aPlan aAppend aLen aIndexAddr aSlice aCells aBounds lBr aq initT aev aAppendOwn aAppendNil aAppendNew aAppendRef LV.cells LV.cellsOk getElem?_pos getElem?_neg

set_option maxHeartbeats 8000000 in
theorem cmay_p {fs : List Fn_} {mu th : Int} {co se ch : List Int} {cho : List (List Int)} (h1 : fs.length ≤ 9223372036854775807) (h2 : co.length ≤ 9223372036854775807) (h3 : se.length ≤ 9223372036854775807) (h4 : ch.length ≤ 9223372036854775807) (h5 : cho.length ≤ 9223372036854775807) (hmu : I64 mu)
    (hc : ch.length ≤ 8 → ∀ k, k < cho.length → PureC Tryz.prog 64 [.agg [row fs, .int .i64 mu, row co, row se, row ch, row cho, .int .i64 th], row (nth cho k)] (.bool (mayCh ⟨fs, mu, co, se, ch, cho, th⟩ (nth cho k)))) :
    PureC Tryz.prog 28 [.agg [row fs, .int .i64 mu, row co, row se, row ch, row cho, .int .i64 th]] (.bool (mayP ⟨fs, mu, co, se, ch, cho, th⟩)) := by
  refine .of fun s v => ?_
  obtain ⟨hm1, hm2⟩ := hmu
  have w5 : PureC Tryz.prog 61 [.int .i64 8, .imm 1 5 [.int .i64 mu, .int .i64 co.length, .int .i64 se.length, .int .i64 ch.length, .int .i64 cho.length] .full] (.bool (allTo [mu, co.length, se.length, ch.length, cho.length] 8)) :=
    fun s v => aCalls_argw (args' := [.int .i64 8, row [mu, (co.length : Int), (se.length : Int), (ch.length : Int), (cho.length : Int)]]) (by simp; exact Weak.cells (Weaks.refl _)) (within_p (by simp) s v)
  have hmp : mayP ⟨fs, mu, co, se, ch, cho, th⟩ = (decide (1 ≤ fs.length) && decide (fs.length ≤ 16) && allTo [mu, co.length, se.length, ch.length, cho.length] 8 && decide (1 ≤ th) && decide (th ≤ 32) && allTo co (mu - 1) && allTo se 100 && allTo ch 8
      && !(cho.any fun l => !mayCh ⟨fs, mu, co, se, ch, cho, th⟩ l) && !(fs.any fun f => !mayF ⟨fs, mu, co, se, ch, cho, th⟩ f)) := by
    have e1 : (!(cho.any fun l => !mayCh ⟨fs, mu, co, se, ch, cho, th⟩ l)) = cho.all (mayCh ⟨fs, mu, co, se, ch, cho, th⟩) := by rw [List.not_any_eq_all_not]; simp
    have e2 : (!(fs.any fun f => !mayF ⟨fs, mu, co, se, ch, cho, th⟩ f)) = fs.all (mayF ⟨fs, mu, co, se, ch, cho, th⟩) := by rw [List.not_any_eq_all_not]; simp
    rw [e1, e2]
    have e3 : allTo [mu, (co.length : Int), (se.length : Int), (ch.length : Int), (cho.length : Int)] 8 = (decide (0 ≤ mu) && decide (mu ≤ 8) && decide (co.length ≤ 8) && decide (se.length ≤ 8) && decide (ch.length ≤ 8) && decide (cho.length ≤ 8)) := by
      rw [Bool.eq_iff_iff]; simp [allTo]; omega
    rw [e3]
    unfold mayP
    generalize cho.all (mayCh ⟨fs, mu, co, se, ch, cho, th⟩) = x1
    generalize fs.all (mayF ⟨fs, mu, co, se, ch, cho, th⟩) = x2
    generalize allTo co (mu - 1) = x3
    generalize allTo se 100 = x4
    generalize allTo ch 8 = x5
    simp only [Bool.and_assoc]
  rw [hmp]
  have wc := fun (hm : 0 ≤ mu) => within_p (l := co) (most := mu - 1) h2
  have ws := within_p (l := se) (most := 100) h3
  have wh := within_p (l := ch) (most := 8) h4
  have c2 := containsFunc_fn (l := fs) (p := fun f => !mayF ⟨fs, mu, co, se, ch, cho, th⟩ f) (g := 66) (ca := [.ptr s.length 0]) (s := s ++ [.cells [row fs, .int .i64 mu, row co, row se, row ch, row cho, .int .i64 th]]) h1 (fun k hk => may2_r (by simp [get_app0]) _)
  clear hmp
  by_cases hmn : 0 ≤ mu ∧ ch.length ≤ 8
  · have c1 := containsFunc_ints (l := cho) (p := fun l => !mayCh ⟨fs, mu, co, se, ch, cho, th⟩ l) (g := 63) (ca := [.ptr s.length 0]) (s := s ++ [.cells [row fs, .int .i64 mu, row co, row se, row ch, row cho, .int .i64 th]]) h5 (fun k hk => may1_r (by simp [get_app0]) _ (hc hmn.2 k hk))
    have wc := wc hmn.1
    replace hmn := hmn.1
    generalize (cho.any fun l => !mayCh ⟨fs, mu, co, se, ch, cho, th⟩ l) = x1 at *
    generalize (fs.any fun f => !mayF ⟨fs, mu, co, se, ch, cho, th⟩ f) = x2 at *
    generalize allTo co (mu - 1) = x3 at *
    generalize allTo se 100 = x4 at *
    generalize allTo ch 8 = x5 at *
    generalize allTo [mu, (co.length : Int), (se.length : Int), (ch.length : Int), (cho.length : Int)] 8 = x6 at *
    clear hc
    refine aCalls_go Tryz.func28 rfl (by decide) Tryz.ntmps28 (by simp) false ?_
    have hres : Tryz.f28.results = #[.tmp 2] := rfl
    cases x6
    all_goals
      repeat' (first | with_reducible refine br_t ?_ | with_reducible refine br_f ?_ | with_reducible refine br_dec (fun _ => ?_) (fun _ => ?_) | with_reducible refine g_dec (fun _ => ?_) (fun _ => ?_) | with_reducible refine g_ndec (fun _ => ?_) (fun _ => ?_) | with_reducible refine br_not (fun _ => ?_) (fun _ => ?_) | with_reducible refine br_split (fun _ => ?_) (fun _ => ?_) | with_reducible refine g_not (fun _ => ?_) (fun _ => ?_) | with_reducible refine g_split (fun _ => ?_) (fun _ => ?_) | with_reducible refine px_dec (fun _ => ?_) (fun _ => ?_) | with_reducible refine px_ndec (fun _ => ?_) (fun _ => ?_) | with_reducible refine px_split (fun _ => ?_) (fun _ => ?_) | with_reducible refine callC w5 (fun v1 hv1 => ?_) | with_reducible refine callC wc (fun v2 hv2 => ?_) | with_reducible refine callC ws (fun v3 hv3 => ?_) | with_reducible refine callC wh (fun v4 hv4 => ?_) | with_reducible refine callR c1 (fun v5 hv5 => ?_) | with_reducible refine callR c2 (fun v6 hv6 => ?_) | simp -implicitDefEqProofs (maxSteps := 2000000) (disch := first | assumption | omega) [*, ])
    all_goals first | (exfalso; omega) | (refine Ends.eqat ?_ (by simp) (by first | exact List.prefix_refl _ | exact hv1 | exact hv1.trans hv2 | exact (hv1.trans hv2).trans hv3 | exact ((hv1.trans hv2).trans hv3).trans hv4 | exact (((hv1.trans hv2).trans hv3).trans hv4).trans hv5 | exact ((((hv1.trans hv2).trans hv3).trans hv4).trans hv5).trans hv6); (first | with_reducible rfl | (simp [*, ]; done) | (simp [*, ]; omega) | (simp only [LV.bool.injEq]; rw [Bool.eq_iff_iff]; simp [*, ]; done) | (simp only [LV.bool.injEq]; rw [Bool.eq_iff_iff]; simp [*, ]; omega) | (simp only [LV.bool.injEq]; rw [Bool.eq_iff_iff]; simp (disch := omega) only [if_pos, if_neg, if_true, if_false, *, ]; simp <;> omega) | (simp only [LV.bool.injEq, Bool.and_eq_false_imp, Bool.and_eq_true, decide_eq_true_eq]; intros; exfalso; omega) | (simp only [LV.bool.injEq, Bool.and_eq_false_imp, Bool.and_eq_true, decide_eq_true_eq]; intros; simp_all; done)))
  · have hx6 : allTo [mu, (co.length : Int), (se.length : Int), (ch.length : Int), (cho.length : Int)] 8 = false := by
      unfold allTo; simp; intros; omega
    rw [hx6] at w5 ⊢
    clear wc ws wh c2 hc
    generalize (cho.any fun l => !mayCh ⟨fs, mu, co, se, ch, cho, th⟩ l) = x1 at *
    generalize (fs.any fun f => !mayF ⟨fs, mu, co, se, ch, cho, th⟩ f) = x2 at *
    clear hx6
    refine aCalls_go Tryz.func28 rfl (by decide) Tryz.ntmps28 (by simp) false ?_
    have hres : Tryz.f28.results = #[.tmp 2] := rfl
    repeat' (first | with_reducible refine br_t ?_ | with_reducible refine br_f ?_ | with_reducible refine br_dec (fun _ => ?_) (fun _ => ?_) | with_reducible refine g_dec (fun _ => ?_) (fun _ => ?_) | with_reducible refine g_ndec (fun _ => ?_) (fun _ => ?_) | with_reducible refine br_not (fun _ => ?_) (fun _ => ?_) | with_reducible refine br_split (fun _ => ?_) (fun _ => ?_) | with_reducible refine g_not (fun _ => ?_) (fun _ => ?_) | with_reducible refine g_split (fun _ => ?_) (fun _ => ?_) | with_reducible refine px_dec (fun _ => ?_) (fun _ => ?_) | with_reducible refine px_ndec (fun _ => ?_) (fun _ => ?_) | with_reducible refine px_split (fun _ => ?_) (fun _ => ?_) | with_reducible refine callC w5 (fun v1 hv1 => ?_) | simp -implicitDefEqProofs (maxSteps := 2000000) (disch := first | assumption | omega) [*, ])
    all_goals first | (exfalso; omega) | (refine Ends.eqat ?_ (by simp) (by first | exact List.prefix_refl _ | exact hv1); simp)
end Go.Hb
end

