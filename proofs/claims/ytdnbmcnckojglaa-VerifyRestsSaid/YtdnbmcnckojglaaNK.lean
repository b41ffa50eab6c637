/-
  A layer for reasoning about the program's calls, and contracts of its functions (NK). CONDITIONS: none; each theorem bears its own.
-/
import Derived.Test.YtdnbmcnckojglaaNJ
set_option linter.unusedVariables false
set_option linter.unusedSimpArgs false
namespace Go.Hb
open Go Go.Proofs Go.RowKit
set_option maxRecDepth 100000
set_option maxHeartbeats 800000
attribute [-simp] aC aL aOper aThen aInBlock aIf aPlan aAppend aLen aIndexAddr aSlice aCells aBounds lBr aq initT aev aAppendOwn aAppendNil aAppendNew aAppendRef LV.cells LV.cellsOk getElem?_pos getElem?_neg
theorem make17_p {p : Prog} {l : List Int} {e : Int} (h : OkProg p) (hl : OkRow I64 l) (he : I64 e) : PureC Try.prog 10 [.agg p.lv, row l, .int .i64 e] (.agg (.int .i64 3 :: .int .i64 (around e 1000) :: ((good p).lv ++ (playC (good p) (coreNew (good p)) (l.take 80)).1.lv))) := by
  have hg := good_ok h
  have hp := mayP_iff (good_may p)
  generalize good p = g at *
  have hll : l.length ≤ 9223372036854775807 := by have := hl.2; omega
  have hnw := new11_p hp
  have hpl := play_p hp (coreNew_inv hp) (l := l) (most := 80) hll hl.1 (by omega) (by omega)
  rw [show (80 : Int).toNat = 80 from rfl] at hpl
  have har := around_p (n := e) (m := 1000) he (by omega)
  generalize (playC g (coreNew g) (l.take 80)).2 = ev at *
  generalize (playC g (coreNew g) (l.take 80)).1 = y at *
  generalize coreNew g = n at *
  refine .of fun s v => ?_
  simp only [Prog.lv, Cor.lv] at hg hnw hpl ⊢
  refine aCalls_go Try.func10 rfl (by decide) Try.ntmps10 (by simp) false ?_
  have hres : Try.f10.results = #[.cell 6 39] := rfl
  repeat' (first | (with_reducible first | refine br_t ?_ | refine br_f ?_ | (first | refine br_dec ?_ ?_ | refine g_dec ?_ ?_ | refine g_ndec ?_ ?_ | refine br_not ?_ ?_ | refine br_split ?_ ?_ | refine g_not ?_ ?_ | refine g_split ?_ ?_ | refine px_dec ?_ ?_ | refine px_ndec ?_ ?_ | refine px_split ?_ ?_) <;> intro _) | (with_reducible refine aWh_draw (own := false) (id := 2) (.qs [0, 1, 3] (.or (.w 2 [0] (.or (.w 4 [] (.qs [5, 6, 7] (.w 8 [] (.w 9 [] (.qs [10] .nil))))) (.w 8 [0] (.w 4 [] (.qs [5, 6, 7] (.w 9 [] (.qs [10] .nil))))))) (.w 8 [1, 0] (.w 2 [0] (.w 4 [] (.qs [5, 6, 7] (.w 9 [] (.qs [10] .nil)))))))) mixed ?_ ?_ ?_; kernel_rfl; kernel_rfl) | (with_reducible refine aWh_draw (own := false) (id := 3) (.qs [0, 2, 3] (.w 1 [3, 2] (.qs [4] (.w 5 [] .nil)))) mixed ?_ ?_ ?_; kernel_rfl; kernel_rfl) | with_reducible refine And.intro ?_ ?_ | with_reducible refine callC hg (fun v1 hv1 => ?_) | with_reducible refine callC hnw (fun v2 hv2 => ?_) | with_reducible refine callC hpl (fun v3 hv3 => ?_) | with_reducible refine callE har ?_ | simp -implicitDefEqProofs (maxSteps := 2000000) (disch := first | assumption | omega) [*, ])
  all_goals exact Ends.eqat rfl (by simp) (hv1.trans (hv2.trans hv3))
end Go.Hb
