/-
  A layer for reasoning about the program's calls, and contracts of its functions (NH). CONDITIONS: none; each theorem bears its own.
-/
import Derived.Test.YtdnbmcnckojglaaNG
import Derived.Test.YtdnbmcnckojglaaP
set_option linter.unusedVariables false
set_option linter.unusedSimpArgs false
namespace Go.Hb
open Go Go.Proofs Go.RowKit
set_option maxRecDepth 100000
set_option maxHeartbeats 800000
attribute [-simp] aC aL aOper aThen aInBlock aIf aPlan aAppend aLen aIndexAddr aSlice aCells aBounds lBr aq initT aev aAppendOwn aAppendNil aAppendNew aAppendRef LV.cells LV.cellsOk getElem?_pos getElem?_neg
def stepsC (g : Prog) (l : List Int) (k : Nat) : Cor := (l.take k).foldl (fun c x => (playC g c [x]).1) (coreNew g)
theorem stepsC_succ (g : Prog) {l : List Int} {k : Nat} (h : k < l.length) : stepsC g l (k + 1) = (playC g (stepsC g l k) [nth l k]).1 := by
  unfold stepsC; rw [take_succ_nth h, List.foldl_append]; rfl
theorem stepsC_inv {g : Prog} (hp : MayP g) (l : List Int) : ∀ k, k ≤ l.length → Inv g (-1) noD (stepsC g l k)
  | 0, _ => coreNew_inv hp
  | k + 1, h => by rw [stepsC_succ g (by omega)]; exact playC_inv hp (stepsC_inv hp l k (by omega)) _
theorem fitsC_of {p : Prog} {c : Cor} (h : Inv p (-1) noD c) : fitsC p c = true := by unfold fitsC; rw [fits_of h]; rfl
set_option maxHeartbeats 8000000 in
theorem lawSteps_p {p : Prog} {l : List Int} (h : OkProg p) (hl : OkRow I64 l) (hlv : PureC Try.prog 9 [] (.bool true)) : PureC Try.prog 3 [.agg p.lv, row l] (.bool true) := by
  have hg := good_ok h
  have hp := mayP_iff (good_may p)
  generalize good p = g at *
  refine .of fun s v => ?_
  have hll : l.length ≤ 9223372036854775807 := by have := hl.2; omega
  have hnw := new11_p hp
  have hx0 := stepsC_inv hp l 0 (by omega)
  have h00 : coreNew g = stepsC g l 0 := rfl
  rw [h00] at hnw
  simp only [Prog.lv, Cor.lv] at hg hnw ⊢
  refine aCalls_go Try.func3 rfl (by decide) Try.ntmps3 (by simp) false ?_
  have hres : Try.f3.results = #[.tmp 4] := rfl
  repeat' (first | (with_reducible first | refine br_t ?_ | refine br_f ?_ | (first | refine br_dec ?_ ?_ | refine g_dec ?_ ?_ | refine g_ndec ?_ ?_ | refine br_not ?_ ?_ | refine br_split ?_ ?_ | refine g_not ?_ ?_ | refine g_split ?_ ?_ | refine px_dec ?_ ?_ | refine px_ndec ?_ ?_ | refine px_split ?_ ?_) <;> intro _) | (with_reducible refine aWh_draw (own := false) (id := 6) (.qs [0, 1, 2, 3, 4, 5, 6] (.or (.w 7 [] (.qs [8, 9, 10] (.w 11 [] (.w 12 [] (.qs [13] .nil))))) (.w 11 [1, 0] (.w 7 [] (.qs [8, 9, 10] (.w 12 [] (.qs [13] .nil))))))) mixed ?_ ?_ ?_; kernel_rfl; kernel_rfl) | with_reducible refine And.intro ?_ ?_ | with_reducible refine callC hg (fun v1 hv1 => ?_) | with_reducible refine callC hnw (fun v2 hv2 => ?_) | simp -implicitDefEqProofs (maxSteps := 2000000) (disch := first | assumption | omega) [*, ])
  refine aW_for (β := List Nat × List AObj) false (l.take 100).length (fun k q => v <+: q.1) (fun k q => [(7, .int .i64 k), (14, .any), (15, .any), (16, .any), (17, .any), (18, .any), (19, .any), (20, .any), (21, .any), (25, .any), (26, .any), (27, .any), (28, .any), (29, .any), (30, .any), (31, .any), (32, .any), (24, .any), (33, .any), (34, .any), (8, .any), (9, .any), (35, .any), (36, .any), (37, .any), (38, .any), (39, .any), (4, .any), (22, .any), (23, .any)]) (fun k q => s ++ (.cells [row p.funcs, .int .i64 p.mutexes, row p.conds, row p.semas, row p.chans, row p.choices, .int .i64 p.threads] :: .cells [row g.funcs, .int .i64 g.mutexes, row g.conds, row g.semas, row g.chans, row g.choices, .int .i64 g.threads] :: .cells (stepsC g l k).lv :: q.2)) (fun _ q => q.1) ?_ ?_
  · exact ⟨(v2, []), hv1.trans hv2, by (refine Fits.of ?_ (Off.refl _ _); simp [upd_apply, upds_cons]), rfl, rfl⟩
  rintro k ⟨v3, J⟩ hk hv3
  replace hv3 : v <+: v3 := hv3
  have hkl : (l.take 100).length ≤ l.length := by simp; omega
  have hinv := stepsC_inv hp l k (by omega)
  by_cases hlt : k < (l.take 100).length
  · have hlt2 : k < l.length ∧ k < 100 := by rw [List.length_take] at hlt; omega
    obtain ⟨hk1, hk2⟩ := hlt2
    have hk1' : (k : Int) < l.length := by omega
    have hk2' : (k : Int) < 100 := by omega
    have hsucc := stepsC_succ g hk1
    have hpl := play_p hp hinv (l := [nth l k]) (most := 1) (by simp) (fun x hx => by simp at hx; subst hx; exact hl.1 _ (nth_mem hk1)) (by omega) (by omega)
    have ht1 : [nth l k].take (1 : Int).toNat = [nth l k] := rfl
    rw [ht1, ← hsucc] at hpl
    have hinv2 := stepsC_inv hp l (k + 1) (by omega)
    have hft := fits_p (hinv2.shC hp)
    rw [fitsC_of hinv2] at hft
    have hsl : aSlice Try.prog 23 (row l) (some (.int .i64 (k : Int))) (some (.int .i64 ((k : Int) + 1))) none = some (row [nth l k]) := by
      rw [aSlice_row_lh (by omega) (by omega) (by omega), if_pos (by simp)]
      congr 2
      rw [show ((k : Int) + 1).toNat - (k : Int).toNat = 1 by omega, Int.toNat_natCast, drop_nth hk1]
      rfl
    clear hsucc hinv hinv2 hg hnw
    generalize hz : stepsC g l (k + 1) = z at *
    generalize (playC g (stepsC g l k) [nth l k]).2 = ev at *
    generalize stepsC g l k = y at *
    simp only [Cor.lv] at hpl ⊢
    repeat' (first | (with_reducible first | refine br_t ?_ | refine br_f ?_ | (first | refine br_dec ?_ ?_ | refine g_dec ?_ ?_ | refine g_ndec ?_ ?_ | refine br_not ?_ ?_ | refine br_split ?_ ?_ | refine g_not ?_ ?_ | refine g_split ?_ ?_ | refine px_dec ?_ ?_ | refine px_ndec ?_ ?_ | refine px_split ?_ ?_) <;> intro _) | (with_reducible refine aWh_draw (own := false) (id := 6) (.qs [0, 1, 2, 3, 4, 5, 6] (.or (.w 7 [] (.qs [8, 9, 10] (.w 11 [] (.w 12 [] (.qs [13] .nil))))) (.w 11 [1, 0] (.w 7 [] (.qs [8, 9, 10] (.w 12 [] (.qs [13] .nil))))))) mixed ?_ ?_ ?_; kernel_rfl; kernel_rfl) | with_reducible refine And.intro ?_ ?_ | with_reducible refine callC hpl (fun v4 hv4 => ?_) | with_reducible refine callC hft (fun v5 hv5 => ?_) | simp -implicitDefEqProofs (maxSteps := 2000000) (disch := first | assumption | omega) [*, ])
    all_goals exact ⟨hlt, (v5, J ++ [.cells [.int .i64 z.now, row z.threads, row z.owners, row z.counts, row z.bufs, row z.lockq, row z.waitq, row z.downq, row z.sendq, row z.recvq]]), hv3.trans (hv4.trans hv5), by (refine Fits.of ?_ ?_; rotate_left; (repeat (first | with_reducible exact Off.refl _ _ | refine Off.upd rfl ?_ | refine Off.updO rfl ?_ | refine Off.upds rfl ?_)); simp [upd_apply, upds_cons]), by simp [hz, Cor.lv], rfl⟩
  · have hlt2 : ¬ ((k : Int) < l.length) ∨ ¬ (k : Int) < 100 := by rw [List.length_take] at hlt; omega
    clear hg hnw
    generalize stepsC g l k = y at *
    simp only [Cor.lv]
    by_cases hkl : (k : Int) < l.length
    · have hkm : ¬ (k : Int) < 100 := hlt2.resolve_left (fun h => h hkl)
      repeat' (first | (with_reducible first | refine br_t ?_ | refine br_f ?_ | (first | refine br_dec ?_ ?_ | refine g_dec ?_ ?_ | refine g_ndec ?_ ?_ | refine br_not ?_ ?_ | refine br_split ?_ ?_ | refine g_not ?_ ?_ | refine g_split ?_ ?_ | refine px_dec ?_ ?_ | refine px_ndec ?_ ?_ | refine px_split ?_ ?_) <;> intro _) | (with_reducible refine aWh_draw (own := false) (id := 6) (.qs [0, 1, 2, 3, 4, 5, 6] (.or (.w 7 [] (.qs [8, 9, 10] (.w 11 [] (.w 12 [] (.qs [13] .nil))))) (.w 11 [1, 0] (.w 7 [] (.qs [8, 9, 10] (.w 12 [] (.qs [13] .nil))))))) mixed ?_ ?_ ?_; kernel_rfl; kernel_rfl) | with_reducible refine And.intro ?_ ?_ | with_reducible refine callC hlv (fun v4 hv4 => ?_) | simp -implicitDefEqProofs (maxSteps := 2000000) (disch := first | assumption | omega) [*, ])
      all_goals exact Ends.eqat rfl (by simp) (hv3.trans hv4)
    · repeat' (first | (with_reducible first | refine br_t ?_ | refine br_f ?_ | (first | refine br_dec ?_ ?_ | refine g_dec ?_ ?_ | refine g_ndec ?_ ?_ | refine br_not ?_ ?_ | refine br_split ?_ ?_ | refine g_not ?_ ?_ | refine g_split ?_ ?_ | refine px_dec ?_ ?_ | refine px_ndec ?_ ?_ | refine px_split ?_ ?_) <;> intro _) | (with_reducible refine aWh_draw (own := false) (id := 6) (.qs [0, 1, 2, 3, 4, 5, 6] (.or (.w 7 [] (.qs [8, 9, 10] (.w 11 [] (.w 12 [] (.qs [13] .nil))))) (.w 11 [1, 0] (.w 7 [] (.qs [8, 9, 10] (.w 12 [] (.qs [13] .nil))))))) mixed ?_ ?_ ?_; kernel_rfl; kernel_rfl) | with_reducible refine And.intro ?_ ?_ | with_reducible refine callC hlv (fun v4 hv4 => ?_) | simp -implicitDefEqProofs (maxSteps := 2000000) (disch := first | assumption | omega) [*, ])
      all_goals exact Ends.eqat rfl (by simp) (hv3.trans hv4)
end Go.Hb
