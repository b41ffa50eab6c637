/-
  A layer for reasoning about the program's calls, and contracts of its functions (MM). CONDITIONS: none; each theorem bears its own.
-/
import Derived.Test.YtdnbmcnckojglaaML
import Derived.Test.YtdnbmcnckojglaaL8
set_option linter.unusedVariables false
set_option linter.unusedSimpArgs false
namespace Go.Hb
open Go Go.Proofs Go.RowKit
set_option maxRecDepth 100000
set_option maxHeartbeats 800000
attribute [-simp] aC aL aOper aThen aInBlock aIf aPlan aAppend aLen aIndexAddr aSlice aCells aBounds lBr aq initT aev aAppendOwn aAppendNil aAppendNew aAppendRef LV.cells LV.cellsOk getElem?_pos getElem?_neg
attribute [local simp] Cor.lv Thr.lv
theorem with_p {c : Cor} {t : Int} {x : Thr} (hb : c.threads.length ≤ 1000) (h0 : 0 ≤ t) (h1 : t < c.threads.length) : PureE Try.prog 30 [.agg [.int .i64 c.now, row c.threads, row c.owners, row c.counts, row c.bufs, row c.lockq, row c.waitq, row c.downq, row c.sendq, row c.recvq], .int .i64 t, .agg [.int .i64 x.state, .int .i64 x.on, row x.frames, row x.stack, .int .i64 x.code]] (.agg (withT c t x).lv) := by
  intro s v
  refine aCalls_deep ?_
  have hne : c.threads ≠ [] := by intro e; rw [e] at h1; simp at h1; omega
  have hn0 : c.threads.length ≠ 0 := fun e => hne (List.length_eq_zero_iff.1 e)
  obtain ⟨xT, JT, ha, hJ⟩ := own_nil (P := Try.prog) (t := 28) (t2 := 28) (sz := 5) (by_ := 72) (by kernel_rfl) rfl (by omega) (l := c.threads) (by unfold maxLen; omega) (by omega) (s ++ [AObj.cells [.int .i64 c.now, row c.threads, row c.owners, row c.counts, row c.bufs, row c.lockq, row c.waitq, row c.downq, row c.sendq, row c.recvq], AObj.cells [.int .i64 x.state, .int .i64 x.on, row x.frames, row x.stack, .int .i64 x.code], AObj.cells [.int .i64 0, .nils, .nils, .nils, .nils, .nils, .nils, .nils, .nils, .nils]])
  obtain ⟨_, rfl, rfl⟩ := hJ.resolve_left fun h => hne h.1
  clear hJ
  have hset := thr_set c.threads t.toNat x (by omega)
  have hle : t.toNat * 5 + 5 ≤ (rowCs c.threads).length := by rw [rowCs_len]; simp; omega
  have hle2 : t.toNat * 5 + 5 ≤ c.threads.length * 5 := by omega
  simp only [setAt] at hset
  refine aCalls_go Try.func30 rfl (by decide) Try.ntmps30 (by simp) true ?_
  have hres : Try.f30.results = #[.cell 6 30] := rfl
  repeat' (first | (with_reducible first | refine br_t ?_ | refine br_f ?_ | (first | refine br_dec ?_ ?_ | refine g_dec ?_ ?_ | refine g_ndec ?_ ?_ | refine br_not ?_ ?_ | refine br_split ?_ ?_ | refine g_not ?_ ?_ | refine g_split ?_ ?_ | refine px_dec ?_ ?_ | refine px_ndec ?_ ?_ | refine px_split ?_ ?_) <;> intro _) | simp -implicitDefEqProofs (maxSteps := 2000000) (disch := first | assumption | omega) [*, ])
  have hel : (c.threads.set t.toNat x).length = c.threads.length := List.length_set
  refine .agg _ _ (.cons _ _ _ _ (.keep _ rfl) (.cons _ _ _ _ ?_ (keepAll _ (by simp [undersB, withT]))))
  rw [← hel]
  exact DeepV.ref_row (α := Thr) (by omega) (by rw [get_app]; rfl) (rowCs_ne (by simp) (by intro e; rw [e] at hel; simp at hel; omega))
theorem see_p {x : Xs} {k t n : Int} (hb : x.seen.length ≤ 100000) : PureC Try.prog 54 [.agg x.lv, .int .i64 k, .int .i64 t, .int .i64 n] (.agg (seeX x k t n).lv) := by
  refine .of fun s v => ?_
  obtain ⟨p, c, xt, seen, woken⟩ := x
  simp only at hb
  simp only [Xs.lv, Prog.lv, Cor.lv, List.cons_append, List.nil_append, seeX]
  obtain ⟨x1, v1, g1, _, ga⟩ := (GroE.nil v (α := Evt)).appr (P := Try.prog) (t := 32) (t2 := 32) (by_ := 24) (by kernel_rfl) (by omega) seen (by simp; omega)
  obtain ⟨x2, v2, g2, _, gb⟩ := g1.push (P := Try.prog) (t := 32) (t2 := 32) (sz := 3) (by_ := 24) (by kernel_rfl) rfl (by omega) ⟨k, t, n⟩ (by simp; omega)
  simp only [enc_evt] at gb
  have c1 := g1.gro.cells
  have c2 := g2.gro.cells
  simp only [List.nil_append] at g2
  refine aCalls_go Try.func54 rfl (by decide) Try.ntmps54 (by simp) false ?_
  have hres : Try.f54.results = #[.cell 8 82] := rfl
  repeat' (first | (with_reducible first | refine br_t ?_ | refine br_f ?_ | (first | refine br_dec ?_ ?_ | refine g_dec ?_ ?_ | refine g_ndec ?_ ?_ | refine br_not ?_ ?_ | refine br_split ?_ ?_ | refine g_not ?_ ?_ | refine g_split ?_ ?_ | refine px_dec ?_ ?_ | refine px_ndec ?_ ?_ | refine px_split ?_ ?_) <;> intro _) | simp -implicitDefEqProofs (maxSteps := 2000000) (disch := first | assumption | omega) [*, ])
  have hu := g2.gro.under
  exact Ends.at (by simp [hu]) (Weak.agg ⟨Weak.refl _, Weak.refl _, Weak.refl _, Weak.refl _, Weak.refl _, Weak.refl _, Weak.refl _, Weak.refl _, Weak.refl _, Weak.refl _, Weak.refl _, Weak.refl _, Weak.refl _, Weak.refl _, Weak.refl _, Weak.refl _, Weak.refl _, Weak.refl _, g2.gro.weak, Weak.refl _, trivial⟩) g2.1
theorem rest_p {x : Xs} {t st on : Int} (hb : x.c.threads.length ≤ 1000) (h0 : 0 ≤ t) (h1 : t < x.c.threads.length) : PureC Try.prog 49 [.agg x.lv, .int .i64 t, .int .i64 st, .int .i64 on] (.agg (restX x t st on).lv) := by
  refine .of fun s v => ?_
  obtain ⟨p, c, xt, seen, woken⟩ := x
  simp only at hb h0 h1
  have hx := ix_in h0 h1
  have hw := with_p (c := c) (t := t) (x := { at' c.threads t with state := st, on := on }) hb h0 h1
  simp only [Xs.lv, Prog.lv, restX, List.cons_append, List.nil_append]
  simp only [at'] at hw ⊢
  generalize withT c t { nth c.threads t.toNat with state := st, on := on } = c2 at *
  simp only [Cor.lv, List.cons_append, List.nil_append] at hw ⊢
  refine aCalls_go Try.func49 rfl (by decide) Try.ntmps49 (by simp) false ?_
  have hres : Try.f49.results = #[.cell 8 82] := rfl
  repeat' (first | (with_reducible first | refine br_t ?_ | refine br_f ?_ | (first | refine br_dec ?_ ?_ | refine g_dec ?_ ?_ | refine g_ndec ?_ ?_ | refine br_not ?_ ?_ | refine br_split ?_ ?_ | refine g_not ?_ ?_ | refine g_split ?_ ?_ | refine px_dec ?_ ?_ | refine px_ndec ?_ ?_ | refine px_split ?_ ?_) <;> intro _) | with_reducible refine callE hw ?_ | simp -implicitDefEqProofs (maxSteps := 2000000) (disch := first | assumption | omega) [*, ])
  exact Ends.eqat rfl (by simp) (List.prefix_refl _)
end Go.Hb
