/-
  A layer for reasoning about the program's calls, and contracts of its functions (MJ). CONDITIONS: none; each theorem bears its own.
-/
import Derived.Test.YtdnbmcnckojglaaMI
set_option linter.unusedVariables false
set_option linter.unusedSimpArgs false
namespace Go.Hb
open Go Go.Proofs Go.RowKit
set_option maxRecDepth 100000
set_option maxHeartbeats 800000
attribute [-simp] aC aL aOper aThen aInBlock aIf aPlan aAppend aLen aIndexAddr aSlice aCells aBounds lBr aq initT aev aAppendOwn aAppendNil aAppendNew aAppendRef LV.cells LV.cellsOk getElem?_pos getElem?_neg
attribute [local simp] Cor.lv
theorem send_p {c : Cor} {ch room t x : Int} (hb : CorB c) (h0 : 0 ≤ ch) (h1 : ch < c.bufs.length) (h2 : ch < c.sendq.length) (h3 : ch < c.recvq.length) :
    PureC Try.prog 73 [.agg [.int .i64 c.now, row c.threads, row c.owners, row c.counts, row c.bufs, row c.lockq, row c.waitq, row c.downq, row c.sendq, row c.recvq], .int .i64 ch, .int .i64 room, .int .i64 t, .int .i64 x] (.tup [.agg (sendC c ch room t x).1.lv, .int .i64 (sendC c ch room t x).2.1, .bool (sendC c ch room t x).2.2]) := by
  intro s v
  refine aCalls_deep ?_
  have hx3 := ix_in h0 h3
  have b3 := hb.recvq.2 _ (nth_mem (k := ch.toNat) (by omega : ch.toNat < c.recvq.length))
  by_cases hr : 0 < (nth c.recvq ch.toNat).length
  · have hs : sendC c ch room t x = (cancelC c (nth (nth c.recvq ch.toNat) 0), nth (nth c.recvq ch.toNat) 0, true) := by unfold sendC at'; rw [if_pos hr]
    rw [hs]
    have hx0 := ix_in (l := nth c.recvq ch.toNat) (i := 0) (by omega) (by omega)
    have hc := cancel_p (t := nth (nth c.recvq ch.toNat) 0) hb (by omega)
    clear hs
    generalize cancelC c (nth (nth c.recvq ch.toNat) 0) = u at *
    simp only [Cor.lv] at hc
    refine aCalls_go Try.func73 rfl (by decide) Try.ntmps73 (by simp) false ?_
    have hres : Try.f73.results = #[.cell 10 30, .tmp 11, .tmp 12] := rfl
    repeat' (first | (with_reducible first | refine br_t ?_ | refine br_f ?_ | (first | refine br_dec ?_ ?_ | refine g_dec ?_ ?_ | refine g_ndec ?_ ?_ | refine br_not ?_ ?_ | refine br_split ?_ ?_ | refine g_not ?_ ?_ | refine g_split ?_ ?_ | refine px_dec ?_ ?_ | refine px_ndec ?_ ?_ | refine px_split ?_ ?_) <;> intro _) | (with_reducible refine aWh_draw (own := false) (id := 7) (.qs [0, 1, 2, 3, 4, 5, 6, 7, 8, 9] (.w 10 [1] (.qs [11] (.w 12 [] .nil)))) mixed ?_ ?_ ?_; kernel_rfl; kernel_rfl) | (with_reducible refine aWh_draw (own := false) (id := 9) (.qs [0, 1, 2, 3, 4, 5, 6, 7, 8, 9, 10] (.w 11 [1] (.qs [12] (.w 13 [] .nil)))) mixed ?_ ?_ ?_; kernel_rfl; kernel_rfl) | with_reducible refine callC hc (fun v1 hv1 => ?_) | simp -implicitDefEqProofs (maxSteps := 2000000) (disch := first | assumption | omega) [*, ])
    exact .keep _ (by simp [LV.under, undersB])
  have b1 := hb.bufs.2 _ (nth_mem (k := ch.toNat) (by omega : ch.toNat < c.bufs.length))
  have b2 := hb.sendq.2 _ (nth_mem (k := ch.toNat) (by omega : ch.toNat < c.sendq.length))
  refine aCalls_go Try.func73 rfl (by decide) Try.ntmps73 (by simp) false ?_
  have hres : Try.f73.results = #[.cell 10 30, .tmp 11, .tmp 12] := rfl
  repeat' (first | (with_reducible first | refine br_t ?_ | refine br_f ?_ | (first | refine br_dec ?_ ?_ | refine g_dec ?_ ?_ | refine g_ndec ?_ ?_ | refine br_not ?_ ?_ | refine br_split ?_ ?_ | refine g_not ?_ ?_ | refine g_split ?_ ?_ | refine px_dec ?_ ?_ | refine px_ndec ?_ ?_ | refine px_split ?_ ?_) <;> intro _) | (with_reducible refine aWh_draw (own := false) (id := 7) (.qs [0, 1, 2, 3, 4, 5, 6, 7, 8, 9] (.w 10 [1] (.qs [11] (.w 12 [] .nil)))) mixed ?_ ?_ ?_; kernel_rfl; kernel_rfl) | (with_reducible refine aWh_draw (own := false) (id := 9) (.qs [0, 1, 2, 3, 4, 5, 6, 7, 8, 9, 10] (.w 11 [1] (.qs [12] (.w 13 [] .nil)))) mixed ?_ ?_ ?_; kernel_rfl; kernel_rfl) | with_reducible refine callCh (chown_c hb) (fun v' J xB xS xR cB cS cR dB dS dR qB qS qR ho => ?_) | simp -implicitDefEqProofs (maxSteps := 2000000) (disch := first | assumption | omega) [*, ])
  replace ho := ho.lay
  obtain ⟨e1, jB, lB, nB⟩ := ho.bufs.obj (by omega)
  obtain ⟨e2, jS, lS, nS⟩ := ho.sendq.obj (by omega)
  have hw := ho.w
  have hgB := ho.gB
  have hgS := ho.gS
  subst e1 e2
  clear ho
  obtain ⟨y, gy1, gy2⟩ := hgB.at_ ch.toNat (by omega)
  obtain ⟨z, gz1, gz2⟩ := hgS.at_ ch.toNat (by omega)
  have hyc := gy2.gro.cells
  have hzc := gz2.gro.cells
  have hyl := gy2.gro.len (P := Try.prog) (t := 23) (by kernel_rfl)
  have hm1 : ch.toNat + 1 ≤ c.bufs.length := by omega
  have hm2 : ch.toNat + 1 ≤ c.sendq.length := by omega
  obtain ⟨y2, v2, gy, _, ha⟩ := gy2.push (P := Try.prog) (t := 23) (t2 := 23) (sz := 1) (by_ := 8) (by kernel_rfl) rfl (by omega) x (by omega)
  obtain ⟨z2, v3, gz, _, ha2⟩ := gz2.push2 (P := Try.prog) (t := 23) (t2 := 23) (by_ := 8) (by kernel_rfl) (by omega) t x (by omega)
  simp only [enc_int] at ha
  have hyc2 := gy.gro.cells
  have hzc2 := gz.gro.cells
  by_cases hrm : ((nth c.bufs ch.toNat).length : Int) < room
  · have hs : sendC c ch room t x = ({ c with bufs := c.bufs.set ch.toNat (nth c.bufs ch.toNat ++ [x]) }, -1, true) := by unfold sendC at'; rw [if_neg hr, if_pos hrm]
    rw [hs]
    clear hs
    have hpre := gy.1
    repeat' (first | (with_reducible first | refine br_t ?_ | refine br_f ?_ | (first | refine br_dec ?_ ?_ | refine g_dec ?_ ?_ | refine g_ndec ?_ ?_ | refine br_not ?_ ?_ | refine br_split ?_ ?_ | refine g_not ?_ ?_ | refine g_split ?_ ?_ | refine px_dec ?_ ?_ | refine px_ndec ?_ ?_ | refine px_split ?_ ?_) <;> intro _) | (with_reducible refine aWh_draw (own := false) (id := 7) (.qs [0, 1, 2, 3, 4, 5, 6, 7, 8, 9] (.w 10 [1] (.qs [11] (.w 12 [] .nil)))) mixed ?_ ?_ ?_; kernel_rfl; kernel_rfl) | (with_reducible refine aWh_draw (own := false) (id := 9) (.qs [0, 1, 2, 3, 4, 5, 6, 7, 8, 9, 10] (.w 11 [1] (.qs [12] (.w 13 [] .nil)))) mixed ?_ ?_ ?_; kernel_rfl; kernel_rfl) | simp -implicitDefEqProofs (maxSteps := 2000000) (disch := first | assumption | omega) [*, ])
    exact .tup _ _ (.cons _ _ _ _ ((hw.setB (by omega) (L := c.bufs.set ch.toNat (nth c.bufs ch.toNat ++ [x])) (cs := cB.set ch.toNat y2) (by simp) (hgB.weak.put gy.gro.weak (gy.gro.under 0))).box _ _).deep (.cons _ _ _ _ (.keep _ rfl) (.cons _ _ _ _ (.keep _ rfl) .nil)))
  · have hs : sendC c ch room t x = ({ c with sendq := c.sendq.set ch.toNat (nth c.sendq ch.toNat ++ [t, x]) }, -1, false) := by unfold sendC at'; rw [if_neg hr, if_neg hrm]
    rw [hs]
    clear hs
    have hpre := gz.1
    repeat' (first | (with_reducible first | refine br_t ?_ | refine br_f ?_ | (first | refine br_dec ?_ ?_ | refine g_dec ?_ ?_ | refine g_ndec ?_ ?_ | refine br_not ?_ ?_ | refine br_split ?_ ?_ | refine g_not ?_ ?_ | refine g_split ?_ ?_ | refine px_dec ?_ ?_ | refine px_ndec ?_ ?_ | refine px_split ?_ ?_) <;> intro _) | (with_reducible refine aWh_draw (own := false) (id := 7) (.qs [0, 1, 2, 3, 4, 5, 6, 7, 8, 9] (.w 10 [1] (.qs [11] (.w 12 [] .nil)))) mixed ?_ ?_ ?_; kernel_rfl; kernel_rfl) | (with_reducible refine aWh_draw (own := false) (id := 9) (.qs [0, 1, 2, 3, 4, 5, 6, 7, 8, 9, 10] (.w 11 [1] (.qs [12] (.w 13 [] .nil)))) mixed ?_ ?_ ?_; kernel_rfl; kernel_rfl) | simp -implicitDefEqProofs (maxSteps := 2000000) (disch := first | assumption | omega) [*, ])
    exact .tup _ _ (.cons _ _ _ _ ((hw.setS (by omega) (L := c.sendq.set ch.toNat (nth c.sendq ch.toNat ++ [t, x])) (cs := cS.set ch.toNat z2) (by simp) (hgS.weak.put gz.gro.weak (gz.gro.under 0))).box _ _).deep (.cons _ _ _ _ (.keep _ rfl) (.cons _ _ _ _ (.keep _ rfl) .nil)))
end Go.Hb
