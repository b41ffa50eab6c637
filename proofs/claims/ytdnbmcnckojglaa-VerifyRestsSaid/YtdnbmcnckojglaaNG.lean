/-
  A layer for reasoning about the program's calls, and contracts of its functions (NG). CONDITIONS: none; each theorem bears its own.
-/
import Derived.Test.YtdnbmcnckojglaaNF
import Derived.Test.YtdnbmcnckojglaaMW
import Derived.Test.YtdnbmcnckojglaaE
import Derived.Test.YtdnbmcnckojglaaL9
set_option linter.unusedVariables false
set_option linter.unusedSimpArgs false
namespace Go.Hb
open Go Go.Proofs Go.RowKit
set_option maxRecDepth 100000
set_option maxHeartbeats 800000
attribute [-simp] aC aL aOper aThen aInBlock aIf aPlan aAppend aLen aIndexAddr aSlice aCells aBounds lBr aq initT aev aAppendOwn aAppendNil aAppendNew aAppendRef LV.cells LV.cellsOk getElem?_pos getElem?_neg
theorem new11_o {p : Prog} (hp : MayP p) {s : List AObj} {v : List Nat} : aCalls Try.prog 6 [.agg [row p.funcs, .int .i64 p.mutexes, row p.conds, row p.semas, row p.chans, row p.choices, .int .i64 p.threads]] s v fun x s' v' => ∃ a0 a1 a2 a3 c, coreNew p = c ∧ s ++ [a0, a1, a2, a3, .cells (thrNew p 0).lv] = s' ∧ v <+: v' ∧ x = .agg [.int .i64 0, .ref 5 (s.length + 4) 0 1 true, row c.owners, row c.counts, row c.bufs, row c.lockq, row c.waitq, row c.downq, row c.sendq, row c.recvq] := by
  have hm := hp.mutexes
  have hn9 := new09_p (m := p.mutexes.toNat) (k := p.conds.length) (l := p.semas) (by omega) (by have := hp.conds.1; omega) (by have := hp.semas.1; omega)
  rw [show ((p.mutexes.toNat : Nat) : Int) = p.mutexes by omega] at hn9
  have hn10 := new10_p (n := p.chans.length) (by omega) (by have := hp.chans.1; omega)
  have hfn := hp.funcs
  have hfc := hp.code _ (at_in (l := p.funcs) (t := 0) (by omega) (by omega))
  have hnew := thrNew_p (fs := p.funcs) (mu := p.mutexes) (th := p.threads) (co := p.conds) (se := p.semas) (ch := p.chans) (cho := p.choices) (f := 0) (by omega) (by omega) hfc.1 hfc.2.1
  rw [show (p.chans.length : Int).toNat = p.chans.length from Int.toNat_natCast _] at hn10
  have hc : coreNew p = ⟨0, [thrNew p 0], List.replicate p.mutexes.toNat (-1), p.semas, List.replicate p.chans.length [], List.replicate p.mutexes.toNat [], List.replicate p.conds.length [], List.replicate p.semas.length [], List.replicate p.chans.length [], List.replicate p.chans.length []⟩ := rfl
  rw [hc]
  clear hc
  generalize List.replicate p.chans.length ([] : List Int) = rc at *
  generalize List.replicate p.mutexes.toNat ([] : List Int) = rm at *
  generalize List.replicate p.mutexes.toNat (-1 : Int) = ro at *
  generalize List.replicate p.conds.length ([] : List Int) = rw' at *
  generalize List.replicate p.semas.length ([] : List Int) = rs at *
  have hnew' : PureE Try.prog 18 [.agg [row p.funcs, .int .i64 p.mutexes, row p.conds, row p.semas, row p.chans, row p.choices, .int .i64 p.threads], .int .i64 0] (.agg (thrNew p 0).lv) := hnew
  clear hnew
  generalize thrNew p 0 = th0 at *
  simp only [Cor.lv, Thr.lv] at hn9 hn10 hnew' ⊢
  refine aCalls_go Try.func6 rfl (by decide) Try.ntmps6 (by simp) true ?_
  have hres : Try.f6.results = #[.cell 2 30] := rfl
  repeat' (first | (with_reducible first | refine br_t ?_ | refine br_f ?_ | (first | refine br_dec ?_ ?_ | refine g_dec ?_ ?_ | refine g_ndec ?_ ?_ | refine br_not ?_ ?_ | refine br_split ?_ ?_ | refine g_not ?_ ?_ | refine g_split ?_ ?_ | refine px_dec ?_ ?_ | refine px_ndec ?_ ?_ | refine px_split ?_ ?_) <;> intro _) | with_reducible refine And.intro ?_ ?_ | with_reducible refine callC hn9 (fun v1 hv1 => ?_) | with_reducible refine callE hn10 ?_ | with_reducible refine callE hnew' ?_ | simp -implicitDefEqProofs (maxSteps := 2000000) (disch := first | assumption | omega) [*, ])
  all_goals exact ⟨_, _, _, _, _, rfl, rfl, hv1, rfl⟩
theorem play0_r {p : Prog} {c : Cor} {xt : LV} {s : List AObj} (hx : xt.cells = [xt] ∧ xt.cellsOk = true) (hu : xt.under s.length = true) :
    Ret Try.prog 7 [.agg [row p.funcs, .int .i64 p.mutexes, row p.conds, row p.semas, row p.chans, row p.choices, .int .i64 p.threads], .agg [.int .i64 c.now, xt, row c.owners, row c.counts, row c.bufs, row c.lockq, row c.waitq, row c.downq, row c.sendq, row c.recvq], .nils, .int .i64 80] s (.tup [.agg [.int .i64 c.now, xt, row c.owners, row c.counts, row c.bufs, row c.lockq, row c.waitq, row c.downq, row c.sendq, row c.recvq], .nils]) := by
  refine .of fun v => ?_
  refine aCalls_go Try.func7 rfl (by decide) Try.ntmps7 (by simp) false ?_
  have hres : Try.f7.results = #[.cell 8 30, .tmp 9] := rfl
  repeat' (first | (with_reducible first | refine br_t ?_ | refine br_f ?_ | (first | refine br_dec ?_ ?_ | refine g_dec ?_ ?_ | refine g_ndec ?_ ?_ | refine br_not ?_ ?_ | refine br_split ?_ ?_ | refine g_not ?_ ?_ | refine g_split ?_ ?_ | refine px_dec ?_ ?_ | refine px_ndec ?_ ?_ | refine px_split ?_ ?_) <;> intro _) | (with_reducible refine aWh_draw (own := false) (id := 11) (.qs [0, 1, 2, 3, 4, 5, 6, 7, 8] (.or (.w 9 [1, 0] (.qs [10, 11] (.or (.w 12 [] (.qs [13, 14, 15, 16, 17] (.w 18 [] (.w 19 [] (.qs [20, 21, 22] .nil))))) (.w 18 [11, 1, 0] (.w 12 [] (.qs [13, 14, 15, 16, 17] (.w 19 [] (.qs [20, 21, 22] .nil)))))))) (.w 18 [6, 1, 0] (.w 9 [1, 0] (.qs [10, 11] (.w 12 [] (.qs [13, 14, 15, 16, 17] (.w 19 [] (.qs [20, 21, 22] .nil))))))))) mixed ?_ ?_ ?_; kernel_rfl; kernel_rfl) | with_reducible refine And.intro ?_ ?_ | simp -implicitDefEqProofs (maxSteps := 2000000) (disch := first | assumption | omega) [*, ])
  refine aW_for0 (β := Unit) false 0 (fun k q => True) (fun k q => [(10, .nils), (11, .int .i64 k), (21, .any), (22, .any), (23, .any), (24, .any), (25, .any), (26, .any), (27, .any), (28, .any), (29, .any), (32, .any), (33, .any), (12, .any), (34, .any), (35, .any), (36, .any), (38, .any), (39, .any), (37, .any), (40, .any), (41, .any), (13, .any), (14, .any), (42, .any), (44, .any), (45, .any), (46, .any), (47, .any), (48, .any), (49, .any), (43, .any), (50, .any), (51, .any), (15, .any), (16, .any), (52, .any), (54, .any), (55, .any), (56, .any), (57, .any), (58, .any), (59, .any), (60, .any), (61, .any), (62, .any), (63, .any), (64, .any), (65, .any), (66, .any), (53, .any), (67, .any), (68, .any), (69, .any), (70, .any), (17, .any), (18, .any), (19, .any), (20, .any), (71, .any), (72, .any), (73, .any), (74, .any), (30, .any), (31, .any)]) (fun _ q => v) ⟨(), trivial, by (refine Fits.of ?_ (Off.refl _ _); simp [upd_apply, upds_cons]), rfl⟩ ?_
  rintro k _ hk -
  have hke : k = 0 := by omega
  subst hke
  repeat' (first | (with_reducible first | refine br_t ?_ | refine br_f ?_ | (first | refine br_dec ?_ ?_ | refine g_dec ?_ ?_ | refine g_ndec ?_ ?_ | refine br_not ?_ ?_ | refine br_split ?_ ?_ | refine g_not ?_ ?_ | refine g_split ?_ ?_ | refine px_dec ?_ ?_ | refine px_ndec ?_ ?_ | refine px_split ?_ ?_) <;> intro _) | (with_reducible refine aWh_draw (own := false) (id := 11) (.qs [0, 1, 2, 3, 4, 5, 6, 7, 8] (.or (.w 9 [1, 0] (.qs [10, 11] (.or (.w 12 [] (.qs [13, 14, 15, 16, 17] (.w 18 [] (.w 19 [] (.qs [20, 21, 22] .nil))))) (.w 18 [11, 1, 0] (.w 12 [] (.qs [13, 14, 15, 16, 17] (.w 19 [] (.qs [20, 21, 22] .nil)))))))) (.w 18 [6, 1, 0] (.w 9 [1, 0] (.qs [10, 11] (.w 12 [] (.qs [13, 14, 15, 16, 17] (.w 19 [] (.qs [20, 21, 22] .nil))))))))) mixed ?_ ?_ ?_; kernel_rfl; kernel_rfl) | with_reducible refine And.intro ?_ ?_ | simp -implicitDefEqProofs (maxSteps := 2000000) (disch := first | assumption | omega) [*, ])
  all_goals exact Ends.eqat rfl (by simp [hu]) (List.prefix_refl _)
end Go.Hb
