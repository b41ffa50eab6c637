/-
  A layer for reasoning about the program's calls, and contracts of its functions (NI). CONDITIONS: none; each theorem bears its own.
-/
import Derived.Test.YtdnbmcnckojglaaNH
set_option linter.unusedVariables false
set_option linter.unusedSimpArgs false
namespace Go.Hb
open Go Go.Proofs Go.RowKit
set_option maxRecDepth 100000
set_option maxHeartbeats 800000
attribute [-simp] aC aL aOper aThen aInBlock aIf aPlan aAppend aLen aIndexAddr aSlice aCells aBounds lBr aq initT aev aAppendOwn aAppendNil aAppendNew aAppendRef LV.cells LV.cellsOk getElem?_pos getElem?_neg
def g0 : Prog := ⟨[⟨0, []⟩], 0, [], [], [], [], 1⟩
theorem g0_eq : good ⟨[], 0, [], [], [], [], 0⟩ = g0 := by rfl
theorem g0_may : MayP g0 := g0_eq ▸ mayP_iff (good_may ⟨[], 0, [], [], [], [], 0⟩)
def th0 : Thr := ⟨0, 0, [⟨0, 0, []⟩], [], 0⟩
def th1 : Thr := ⟨0, 1, [⟨0, 0, []⟩], [], 0⟩
def c0 : Cor := ⟨0, [th0], [], [], [], [], [], [], [], []⟩
def c1 : Cor := ⟨0, [th1], [], [], [], [], [], [], [], []⟩
theorem c0_eq : coreNew g0 = c0 := by rfl
theorem th0_eq : thrNew g0 0 = th0 := by rfl
theorem c0_inv : Inv g0 (-1) noD c0 := c0_eq ▸ coreNew_inv g0_may
theorem c1_sh : ShC g0 c1 := by
  have h := c0_inv.shC g0_may
  exact ⟨⟨by simp [c1], h.b.owners, h.b.counts, h.b.bufs, h.b.lockq, h.b.waitq, h.b.downq, h.b.sendq, h.b.recvq⟩, ⟨h.len.owners, h.len.counts, h.len.bufs, h.len.lockq, h.len.waitq, h.len.downq, h.len.sendq, h.len.recvq⟩, h.even, h.choices⟩
theorem c1_first : firstC g0 c1 = (0, 0) := by decide +kernel
theorem make0_o {s : List AObj} {v : List Nat} : aCalls Try.prog 10 [.agg [.nils, .int .i64 0, .nils, .nils, .nils, .nils, .int .i64 0], .nils, .int .i64 0] s v fun x s' v' => ∃ J d, s ++ J = s' ∧ J[d]? = some (.cells th0.lv) ∧ v <+: v' ∧ x = .agg [.int .i64 3, .int .i64 0, row [(⟨0, []⟩ : Fn_)], .int .i64 0, row ([] : List Int), row ([] : List Int), row ([] : List Int), row ([] : List (List Int)), .int .i64 1, .int .i64 0, .ref 5 (s.length + d) 0 1 true, row ([] : List Int), row ([] : List Int), row ([] : List (List Int)), row ([] : List (List Int)), row ([] : List (List Int)), row ([] : List (List Int)), row ([] : List (List Int)), row ([] : List (List Int))] := by
  have hg := good_ok (p := ⟨[], 0, [], [], [], [], 0⟩) ⟨⟨by simp, by simp⟩, by unfold I64; decide, ⟨by simp, by simp⟩, ⟨by simp, by simp⟩, ⟨by simp, by simp⟩, ⟨by simp, by simp⟩, by unfold I64; decide⟩
  rw [g0_eq] at hg
  have har := around_p (n := 0) (m := 1000) (by unfold I64; decide) (by omega)
  rw [show around 0 1000 = 0 by rfl] at har
  have hwf : Weak .nils (row ([] : List Fn_)) := Weak.nilrow
  have hwi : Weak .nils (row ([] : List Int)) := Weak.nilrow
  have hwr : Weak .nils (row ([] : List (List Int))) := Weak.nilrow
  have hpl : ∀ (s : List AObj) (xt : LV), (xt.cells = [xt] ∧ xt.cellsOk = true) → xt.under s.length = true → Ret Try.prog 7 [.agg [row [(⟨0, []⟩ : Fn_)], .int .i64 0, row ([] : List Int), row ([] : List Int), row ([] : List Int), row ([] : List (List Int)), .int .i64 1], .agg [.int .i64 0, xt, row ([] : List Int), row ([] : List Int), row ([] : List (List Int)), row ([] : List (List Int)), row ([] : List (List Int)), row ([] : List (List Int)), row ([] : List (List Int)), row ([] : List (List Int))], .nils, .int .i64 80] s (.tup [.agg [.int .i64 0, xt, row ([] : List Int), row ([] : List Int), row ([] : List (List Int)), row ([] : List (List Int)), row ([] : List (List Int)), row ([] : List (List Int)), row ([] : List (List Int)), row ([] : List (List Int))], .nils]) := fun s xt h1 h2 => play0_r (p := g0) (c := c0) h1 h2
  simp only [Prog.lv, g0] at hg
  refine aCalls_go Try.func10 rfl (by decide) Try.ntmps10 (by simp) false ?_
  have hres : Try.f10.results = #[.cell 6 39] := rfl
  repeat' (first | (with_reducible first | refine br_t ?_ | refine br_f ?_ | (first | refine br_dec ?_ ?_ | refine g_dec ?_ ?_ | refine g_ndec ?_ ?_ | refine br_not ?_ ?_ | refine br_split ?_ ?_ | refine g_not ?_ ?_ | refine g_split ?_ ?_ | refine px_dec ?_ ?_ | refine px_ndec ?_ ?_ | refine px_split ?_ ?_) <;> intro _) | (with_reducible refine aWh_draw (own := false) (id := 2) (.qs [0, 1, 3] (.or (.w 2 [0] (.or (.w 4 [] (.qs [5, 6, 7] (.w 8 [] (.w 9 [] (.qs [10] .nil))))) (.w 8 [0] (.w 4 [] (.qs [5, 6, 7] (.w 9 [] (.qs [10] .nil))))))) (.w 8 [1, 0] (.w 2 [0] (.w 4 [] (.qs [5, 6, 7] (.w 9 [] (.qs [10] .nil)))))))) mixed ?_ ?_ ?_; kernel_rfl; kernel_rfl) | (with_reducible refine aWh_draw (own := false) (id := 3) (.qs [0, 2, 3] (.w 1 [3, 2] (.qs [4] (.w 5 [] .nil)))) mixed ?_ ?_ ?_; kernel_rfl; kernel_rfl) | with_reducible refine And.intro ?_ ?_ | with_reducible refine callWC hg (by simp [hwf, hwi, hwr]) (fun v1 hv1 => ?_) | simp -implicitDefEqProofs (maxSteps := 2000000) (disch := first | assumption | omega) [*, ])
  all_goals
    refine aCalls_mono (new11_o g0_may) ?_
    rintro _ _ v2 ⟨a0, a1, a2, a3, c, hc, rfl, hv2, rfl⟩
    rw [c0_eq] at hc
    subst hc
    rw [th0_eq]
    simp only [c0]
    repeat' (first | (with_reducible first | refine br_t ?_ | refine br_f ?_ | (first | refine br_dec ?_ ?_ | refine g_dec ?_ ?_ | refine g_ndec ?_ ?_ | refine br_not ?_ ?_ | refine br_split ?_ ?_ | refine g_not ?_ ?_ | refine g_split ?_ ?_ | refine px_dec ?_ ?_ | refine px_ndec ?_ ?_ | refine px_split ?_ ?_) <;> intro _) | (with_reducible refine aWh_draw (own := false) (id := 2) (.qs [0, 1, 3] (.or (.w 2 [0] (.or (.w 4 [] (.qs [5, 6, 7] (.w 8 [] (.w 9 [] (.qs [10] .nil))))) (.w 8 [0] (.w 4 [] (.qs [5, 6, 7] (.w 9 [] (.qs [10] .nil))))))) (.w 8 [1, 0] (.w 2 [0] (.w 4 [] (.qs [5, 6, 7] (.w 9 [] (.qs [10] .nil)))))))) mixed ?_ ?_ ?_; kernel_rfl; kernel_rfl) | (with_reducible refine aWh_draw (own := false) (id := 3) (.qs [0, 2, 3] (.w 1 [3, 2] (.qs [4] (.w 5 [] .nil)))) mixed ?_ ?_ ?_; kernel_rfl; kernel_rfl) | with_reducible refine And.intro ?_ ?_ | with_reducible refine callR (hpl _ _ ⟨rfl, rfl⟩ (by simp)) (fun v3 hv3 => ?_) | with_reducible refine callE har ?_ | simp -implicitDefEqProofs (maxSteps := 2000000) (disch := first | assumption | omega) [*, ])
    all_goals first | exact ⟨7, rfl, hv1.trans (hv2.trans hv3), by omega⟩ | exact ⟨6, rfl, hv1.trans (hv2.trans hv3), by omega⟩ | exact ⟨8, rfl, hv1.trans (hv2.trans hv3), by omega⟩
theorem fits0_p : PureC Try.prog 8 [.agg [row [(⟨0, []⟩ : Fn_)], .int .i64 0, row ([] : List Int), row ([] : List Int), row ([] : List Int), row ([] : List (List Int)), .int .i64 1], .agg [.int .i64 0, row [th0], row ([] : List Int), row ([] : List Int), row ([] : List (List Int)), row ([] : List (List Int)), row ([] : List (List Int)), row ([] : List (List Int)), row ([] : List (List Int)), row ([] : List (List Int))]] (.bool true) := by
  have h := fits_p (c0_inv.shC g0_may)
  rwa [fitsC_of c0_inv] at h
theorem first1_p : PureC Try.prog 13 [.agg [row [(⟨0, []⟩ : Fn_)], .int .i64 0, row ([] : List Int), row ([] : List Int), row ([] : List Int), row ([] : List (List Int)), .int .i64 1], .agg [.int .i64 0, row [th1], row ([] : List Int), row ([] : List Int), row ([] : List (List Int)), row ([] : List (List Int)), row ([] : List (List Int)), row ([] : List (List Int)), row ([] : List (List Int)), row ([] : List (List Int))]] (.tup [.int .i64 0, .int .i64 0]) := by
  have h := first_p c1_sh
  rwa [c1_first] at h
theorem lend0 {f : FuncId} {y : LV} {th : Thr} (h : PureC Try.prog f [.agg [row [(⟨0, []⟩ : Fn_)], .int .i64 0, row ([] : List Int), row ([] : List Int), row ([] : List Int), row ([] : List (List Int)), .int .i64 1], .agg [.int .i64 0, row [th], row ([] : List Int), row ([] : List Int), row ([] : List (List Int)), row ([] : List (List Int)), row ([] : List (List Int)), row ([] : List (List Int)), row ([] : List (List Int)), row ([] : List (List Int))]] y) (hf : y.flat = true) {S : List AObj} {id : Nat} (hS : S[id]? = some (.cells th.lv)) :
    Ret Try.prog f [.agg [row [(⟨0, []⟩ : Fn_)], .int .i64 0, row ([] : List Int), row ([] : List Int), row ([] : List Int), row ([] : List (List Int)), .int .i64 1], .agg [.int .i64 0, .ref 5 id 0 1 true, row ([] : List Int), row ([] : List Int), row ([] : List (List Int)), row ([] : List (List Int)), row ([] : List (List Int)), row ([] : List (List Int)), row ([] : List (List Int)), row ([] : List (List Int))]] S y :=
  Ret.lend h hf (.cons _ _ _ _ (.keep _ (by simp)) (.cons _ _ _ _ (.agg _ _ (.cons _ _ _ _ (.keep _ rfl) (.cons _ _ _ _ (.ref_row (l := [th]) (Nat.zero_le _) (by rw [hS]; simp [rowCs, Enc.enc, Thr.lv]) (by simp [rowCs, Enc.enc, Thr.lv])) (keepAll _ (by simp))))) .nil))
theorem lives_p : PureC Try.prog 9 [] (.bool true) := by
  refine .of fun s v => ?_
  refine aCalls_go Try.func9 rfl (by decide) Try.ntmps9 (by simp) false ?_
  have hres : Try.f9.results = #[.tmp 0] := rfl
  repeat' (first | (with_reducible first | refine br_t ?_ | refine br_f ?_ | (first | refine br_dec ?_ ?_ | refine g_dec ?_ ?_ | refine g_ndec ?_ ?_ | refine br_not ?_ ?_ | refine br_split ?_ ?_ | refine g_not ?_ ?_ | refine g_split ?_ ?_ | refine px_dec ?_ ?_ | refine px_ndec ?_ ?_ | refine px_split ?_ ?_) <;> intro _) | with_reducible refine And.intro ?_ ?_ | simp -implicitDefEqProofs (maxSteps := 2000000) (disch := first | assumption | omega) [*, ])
  all_goals
    refine aCalls_mono make0_o ?_
    rintro _ _ v1 ⟨J, d, rfl, hJ, hv1, rfl⟩
    have hd := (List.getElem?_eq_some_iff.1 hJ).1
    have hJX : ∀ X, (J ++ X)[d]? = some (.cells th0.lv) := fun X => by rw [List.getElem?_append_left hd]; exact hJ
    have hft : ∀ X, Ret Try.prog 8 [.agg [row [(⟨0, []⟩ : Fn_)], .int .i64 0, row ([] : List Int), row ([] : List Int), row ([] : List Int), row ([] : List (List Int)), .int .i64 1], .agg [.int .i64 0, .ref 5 (s.length + d) 0 1 true, row ([] : List Int), row ([] : List Int), row ([] : List (List Int)), row ([] : List (List Int)), row ([] : List (List Int)), row ([] : List (List Int)), row ([] : List (List Int)), row ([] : List (List Int))]] (s ++ (J ++ X)) (.bool true) := fun X => lend0 fits0_p rfl (by rw [get_app]; exact hJX X)
    have hfs : ∀ X, Ret Try.prog 13 [.agg [row [(⟨0, []⟩ : Fn_)], .int .i64 0, row ([] : List Int), row ([] : List Int), row ([] : List Int), row ([] : List (List Int)), .int .i64 1], .agg [.int .i64 0, .ref 5 (s.length + d) 0 1 true, row ([] : List Int), row ([] : List Int), row ([] : List (List Int)), row ([] : List (List Int)), row ([] : List (List Int)), row ([] : List (List Int)), row ([] : List (List Int)), row ([] : List (List Int))]] (s ++ (J.set d (.cells [.int .i64 0, .int .i64 1, row [(⟨0, 0, []⟩ : Frm)], row ([] : List Int), .int .i64 0]) ++ X)) (.tup [.int .i64 0, .int .i64 0]) := fun X => lend0 first1_p rfl (by rw [get_app, List.getElem?_append_left (by simpa using hd), List.getElem?_set_self hd]; rfl)
    have hJs : ∀ X o, (J ++ X).set d o = J.set d o ++ X := fun X o => by rw [List.set_append_left _ _ hd]
    have hJl : ∀ o X x, (J.set d o ++ x :: X)[J.length]? = some x := fun o X x => by rw [List.getElem?_append_right (by simp)]; simp
    have hJl2 : ∀ X x, (J ++ x :: X)[J.length]? = some x := fun X x => by rw [List.getElem?_append_right (by simp)]; simp
    simp only [Thr.lv, th0] at hJX
    clear hJ
    repeat' (first | (with_reducible first | refine br_t ?_ | refine br_f ?_ | (first | refine br_dec ?_ ?_ | refine g_dec ?_ ?_ | refine g_ndec ?_ ?_ | refine br_not ?_ ?_ | refine br_split ?_ ?_ | refine g_not ?_ ?_ | refine g_split ?_ ?_ | refine px_dec ?_ ?_ | refine px_ndec ?_ ?_ | refine px_split ?_ ?_) <;> intro _) | with_reducible refine And.intro ?_ ?_ | with_reducible refine callR (hft _) (fun v2 hv2 => ?_) | with_reducible refine callR (hfs _) (fun v3 hv3 => ?_) | simp -implicitDefEqProofs (maxSteps := 2000000) (disch := first | assumption | omega) [*, ])
    all_goals exact Ends.eqat rfl rfl (hv1.trans (hv2.trans hv3))
end Go.Hb
