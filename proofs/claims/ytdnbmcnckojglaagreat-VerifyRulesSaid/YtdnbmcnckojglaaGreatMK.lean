/-
  A layer for reasoning about the program's calls, and contracts of its functions (MK). CONDITIONS: none; each theorem bears its own.
-/
import Derived.Test.YtdnbmcnckojglaaGreatMI
set_option linter.unusedVariables false
set_option linter.unusedSimpArgs false
namespace Go.Hb
open Go Go.Proofs Go.RowKit
set_option maxRecDepth 100000
set_option maxHeartbeats 800000
attribute [-simp] aC aL aOper aThen aInBlock aIf aPlan aAppend aLen aIndexAddr aSlice aCells aBounds lBr aq initT aev aAppendOwn aAppendNil aAppendNew aAppendRef LV.cells LV.cellsOk getElem?_pos getElem?_neg
attribute [local simp] Cor.lv
theorem recv_p {c : Cor} {ch t : Int} (hb : CorB c) (h0 : 0 ≤ ch) (h1 : ch < c.bufs.length) (h2 : ch < c.sendq.length) (h3 : ch < c.recvq.length) (h4 : 0 < (nth c.sendq ch.toNat).length → 2 ≤ (nth c.sendq ch.toNat).length) :
  PureC Tryz.prog 256 [.agg [.int .i64 c.now, row c.threads, row c.owners, row c.counts, row c.bufs, row c.lockq, row c.waitq, row c.downq, row c.sendq, row c.recvq], .int .i64 ch, .int .i64 t] (.tup [.agg (recvC c ch t).1.lv, .int .i64 (recvC c ch t).2.1, .int .i64 (recvC c ch t).2.2.1, .bool (recvC c ch t).2.2.2]) := by
 intro s v
 refine aCalls_deep ?_
 have b1 := hb.bufs.2 _ (nth_mem (k := ch.toNat) (by omega : ch.toNat < c.bufs.length))
 have b2 := hb.sendq.2 _ (nth_mem (k := ch.toNat) (by omega : ch.toNat < c.sendq.length))
 have b3 := hb.recvq.2 _ (nth_mem (k := ch.toNat) (by omega : ch.toNat < c.recvq.length))
 have hm1 : ch.toNat + 1 ≤ c.bufs.length := by omega
 have hm2 : ch.toNat + 1 ≤ c.sendq.length := by omega
 have hm3 : ch.toNat + 1 ≤ c.recvq.length := by omega
 refine aCalls_go Tryz.func256 rfl (by decide) Tryz.ntmps256 (by simp) false ?_
 have hres : Tryz.f256.results = #[.cell 6 30, .tmp 7, .tmp 8, .tmp 9] := rfl
 repeat' (first|(with_reducible first|refine bt ?_|refine bf ?_|(first|refine bc ?_ ?_|refine gc ?_ ?_|refine pc ?_ ?_)<;>intro _|(refine dr P256 mixed ?_ ?_ ?_;kernel_rfl;kernel_rfl)|refine callCh (chown_c hb) (fun v' J xB xS xR cB cS cR dB dS dR qB qS qR ho => ?_))|simp -implicitDefEqProofs(maxSteps:=2000000)(disch:=first|assumption|omega)[*, ])
 replace ho := ho.lay
 obtain ⟨e1, jB, lB, nB⟩ := ho.bufs.obj (by omega)
 obtain ⟨e2, jS, lS, nS⟩ := ho.sendq.obj (by omega)
 obtain ⟨e3, jR, lR, nR⟩ := ho.recvq.obj (by omega)
 have hw := ho.w
 have hgB := ho.gB
 have hgS := ho.gS
 have hgR := ho.gR
 subst e1 e2 e3
 clear ho
 obtain ⟨y, gy1, gy2⟩ := hgB.at_ ch.toNat (by omega)
 obtain ⟨z, gz1, gz2⟩ := hgS.at_ ch.toNat (by omega)
 obtain ⟨w, gw1, gw2⟩ := hgR.at_ ch.toNat (by omega)
 have hyc := gy2.gro.cells
 have hzc := gz2.gro.cells
 have hwc := gw2.gro.cells
 have hyl := gy2.gro.len (P := Tryz.prog) (t := 23) (by kernel_rfl)
 have hzl := gz2.gro.len (P := Tryz.prog) (t := 23) (by kernel_rfl)
 have hyi := fun i => gy2.ix (P := Tryz.prog) (t := 23) (κ := .i64) (i := i)
 have hzi := fun i => gz2.ix (P := Tryz.prog) (t := 23) (κ := .i64) (i := i)
 have hpre := hgB.pre
 by_cases hB : 0 < (nth c.bufs ch.toNat).length
 ·have hy0 := ix_in (l := nth c.bufs ch.toNat) (i := 0) (by omega) (by omega)
  obtain ⟨y2, hs1, gy3⟩ := gy2.slice (P := Tryz.prog) (t := 23) (a := 1) (by simp) (by omega) (by omega)
  simp only [show (1 : Int).toNat = 1 from rfl, List.drop_one] at gy3
  have hyc2 := gy3.gro.cells
  have hwB := hw.setB (by omega) (L := c.bufs.set ch.toNat (nth c.bufs ch.toNat).tail) (cs := cB.set ch.toNat y2) (by simp) (hgB.weak.put gy3.gro.weak (gy3.gro.under 0))
  have jS1 := (hwB.sendq.obj (by show c.sendq.length ≠ 0; omega)).2.1
  by_cases hS : 0 < (nth c.sendq ch.toNat).length
  ·have hl2 := h4 hS
   have hr : recvC c ch t = ({ c with bufs := c.bufs.set ch.toNat ((nth c.bufs ch.toNat).tail ++ [nth (nth c.sendq ch.toNat) 1]), sendq := c.sendq.set ch.toNat ((nth c.sendq ch.toNat).drop 2) }, nth (nth c.bufs ch.toNat) 0, nth (nth c.sendq ch.toNat) 0, true) := by unfold recvC at'; rw [if_pos hB, if_pos hS, List.drop_one]
   rw [hr]
   clear hr
   have hz0 := ix_in (l := nth c.sendq ch.toNat) (i := 0) (by omega) (by omega)
   have hz1 := ix_in (l := nth c.sendq ch.toNat) (i := 1) (by omega) (by omega)
   obtain ⟨z2, hs2, gz3⟩ := gz2.slice (P := Tryz.prog) (t := 23) (a := 2) (by simp) (by omega) (by omega)
   simp only [show (2 : Int).toNat = 2 from rfl] at gz3
   have hzc2 := gz3.gro.cells
   obtain ⟨y4, v4, gy4, _, ha⟩ := gy3.push (P := Tryz.prog) (t := 23) (t2 := 23) (sz := 1) (by_ := 8) (by kernel_rfl) rfl (by omega) (nth (nth c.sendq ch.toNat) 1) (by simp; omega)
   simp only [enc_int] at ha
   have hyc4 := gy4.gro.cells
   have hpre4 := gy4.1
   have hcb : (cB.set ch.toNat y2)[ch.toNat]? = some y2 := by rw [List.getElem?_set_self (by rw [lB]; omega)]
   have hcl : ch.toNat + 1 ≤ (cB.set ch.toNat y2).length := by simp [lB]; omega
   have jB1 := (hwB.bufs.obj (by show (c.bufs.set _ _).length ≠ 0; rw [List.length_set]; omega)).2.1
   have hwB2 := hw.setB (by omega) (L := c.bufs.set ch.toNat ((nth c.bufs ch.toNat).tail ++ [nth (nth c.sendq ch.toNat) 1])) (cs := cB.set ch.toNat y4) (by simp) (hgB.weak.put gy4.gro.weak (gy4.gro.under 0))
   have jS2 := (hwB2.sendq.obj (by show c.sendq.length ≠ 0; omega)).2.1
   have hwS := hwB2.setS (by show c.sendq.length ≠ 0; omega) (L := c.sendq.set ch.toNat ((nth c.sendq ch.toNat).drop 2)) (cs := cS.set ch.toNat z2) (by simp) (hgS.weak.put gz3.gro.weak (gz3.gro.under 0))
   repeat' (first|(with_reducible first|refine bt ?_|refine bf ?_|(first|refine bc ?_ ?_|refine gc ?_ ?_|refine pc ?_ ?_)<;>intro _|(refine dr P256 mixed ?_ ?_ ?_;kernel_rfl;kernel_rfl))|simp -implicitDefEqProofs(maxSteps:=2000000)(disch:=first|assumption|omega)[*, ])
   exact .tup _ _ (.cons _ _ _ _ (hwS.box _ _).deep (.cons _ _ _ _ (.keep _ rfl) (.cons _ _ _ _ (.keep _ rfl) (.cons _ _ _ _ (.keep _ rfl) .nil))))
  ·have hr : recvC c ch t = ({ c with bufs := c.bufs.set ch.toNat (nth c.bufs ch.toNat).tail }, nth (nth c.bufs ch.toNat) 0, -1, true) := by unfold recvC at'; rw [if_pos hB, if_neg hS, List.drop_one]
   rw [hr]
   clear hr
   repeat' (first|(with_reducible first|refine bt ?_|refine bf ?_|(first|refine bc ?_ ?_|refine gc ?_ ?_|refine pc ?_ ?_)<;>intro _|(refine dr P256 mixed ?_ ?_ ?_;kernel_rfl;kernel_rfl))|simp -implicitDefEqProofs(maxSteps:=2000000)(disch:=first|assumption|omega)[*, ])
   exact .tup _ _ (.cons _ _ _ _ (hwB.box _ _).deep (.cons _ _ _ _ (.keep _ rfl) (.cons _ _ _ _ (.keep _ rfl) (.cons _ _ _ _ (.keep _ rfl) .nil))))
 by_cases hS : 0 < (nth c.sendq ch.toNat).length
 ·have hl2 := h4 hS
  have hr : recvC c ch t = ({ c with sendq := c.sendq.set ch.toNat ((nth c.sendq ch.toNat).drop 2) }, nth (nth c.sendq ch.toNat) 1, nth (nth c.sendq ch.toNat) 0, true) := by unfold recvC at'; rw [if_neg hB, if_pos hS]
  rw [hr]
  clear hr
  have hz0 := ix_in (l := nth c.sendq ch.toNat) (i := 0) (by omega) (by omega)
  have hz1 := ix_in (l := nth c.sendq ch.toNat) (i := 1) (by omega) (by omega)
  obtain ⟨z2, hs1, gz3⟩ := gz2.slice (P := Tryz.prog) (t := 23) (a := 2) (by simp) (by omega) (by omega)
  simp only [show (2 : Int).toNat = 2 from rfl] at gz3
  have hzc2 := gz3.gro.cells
  repeat' (first|(with_reducible first|refine bt ?_|refine bf ?_|(first|refine bc ?_ ?_|refine gc ?_ ?_|refine pc ?_ ?_)<;>intro _|(refine dr P256 mixed ?_ ?_ ?_;kernel_rfl;kernel_rfl))|simp -implicitDefEqProofs(maxSteps:=2000000)(disch:=first|assumption|omega)[*, ])
  exact .tup _ _ (.cons _ _ _ _ ((hw.setS (by omega) (L := c.sendq.set ch.toNat ((nth c.sendq ch.toNat).drop 2)) (cs := cS.set ch.toNat z2) (by simp) (hgS.weak.put gz3.gro.weak (gz3.gro.under 0))).box _ _).deep (.cons _ _ _ _ (.keep _ rfl) (.cons _ _ _ _ (.keep _ rfl) (.cons _ _ _ _ (.keep _ rfl) .nil))))
 ·have hr : recvC c ch t = ({ c with recvq := c.recvq.set ch.toNat (nth c.recvq ch.toNat ++ [t]) }, 0, -1, false) := by unfold recvC at'; rw [if_neg hB, if_neg hS]
  rw [hr]
  clear hr
  obtain ⟨w2, v2, gw, _, ha⟩ := gw2.push (P := Tryz.prog) (t := 23) (t2 := 23) (sz := 1) (by_ := 8) (by kernel_rfl) rfl (by omega) t (by omega)
  simp only [enc_int] at ha
  have hwc2 := gw.gro.cells
  have hpre2 := gw.1
  repeat' (first|(with_reducible first|refine bt ?_|refine bf ?_|(first|refine bc ?_ ?_|refine gc ?_ ?_|refine pc ?_ ?_)<;>intro _|(refine dr P256 mixed ?_ ?_ ?_;kernel_rfl;kernel_rfl))|simp -implicitDefEqProofs(maxSteps:=2000000)(disch:=first|assumption|omega)[*, ])
  exact .tup _ _ (.cons _ _ _ _ ((hw.setR (by omega) (L := c.recvq.set ch.toNat (nth c.recvq ch.toNat ++ [t])) (cs := cR.set ch.toNat w2) (by simp) (hgR.weak.put gw.gro.weak (gw.gro.under 0))).box _ _).deep (.cons _ _ _ _ (.keep _ rfl) (.cons _ _ _ _ (.keep _ rfl) (.cons _ _ _ _ (.keep _ rfl) .nil))))
end Go.Hb
