/-
  A layer for reasoning about the program's calls, and contracts of its functions (MI). CONDITIONS: none; each theorem bears its own.
-/
import Derived.Test.YtdnbmcnckojglaaGreatMH
set_option linter.unusedVariables false
set_option linter.unusedSimpArgs false
section
namespace Go.Hb
open Go Go.Proofs Go.RowKit
set_option maxRecDepth 100000
set_option maxHeartbeats 800000
attribute [-simp] aC aL aOper aThen aInBlock aIf aPlan aAppend aLen aIndexAddr aSlice aCells aBounds lBr aq initT aev aAppendOwn aAppendNil aAppendNew aAppendRef LV.cells LV.cellsOk getElem?_pos getElem?_neg
attribute [local simp] Cor.lv
def cancTo (t : Int) (L : List (List Int)) (k : Nat) : List (List Int) := (L.take k).map (fun l => l.filter fun x => decide (x ≠ t)) ++ L.drop k
theorem cancTo_len (t : Int) (L : List (List Int)) (k : Nat) : (cancTo t L k).length = L.length := by simp [cancTo]; omega
theorem cancTo_succ {t : Int} {L : List (List Int)} {k : Nat} (h : k < L.length) : (cancTo t L k).set k ((nth L k).filter fun x => decide (x ≠ t)) = cancTo t L (k + 1) := by
 have hl : ((L.take k).map (fun l => l.filter fun x => decide (x ≠ t))).length = k := by simp; omega
 unfold cancTo
 rw [List.set_append_right _ _ (by omega), hl, Nat.sub_self, drop_nth h, List.set_cons_zero, take_succ_nth h]
 simp
theorem filt_succ {t : Int} {l : List Int} {j : Nat} (h : j < l.length) : (l.take (j + 1)).filter (fun x => decide (x ≠ t)) = if nth l j ≠ t then (l.take j).filter (fun x => decide (x ≠ t)) ++ [nth l j] else (l.take j).filter (fun x => decide (x ≠ t)) := by
 rw [take_succ_nth h, List.filter_append]
 by_cases e : nth l j = t <;> simp [e]
theorem cancel_p {c : Cor} {t : Int} (hb : CorB c) (hn : c.recvq.length ≠ 0) : PureC Tryz.prog 288 [.agg [.int .i64 c.now, row c.threads, row c.owners, row c.counts, row c.bufs, row c.lockq, row c.waitq, row c.downq, row c.sendq, row c.recvq], .int .i64 t] (.tup [.agg (cancelC c t).lv, .any]) := by
 intro s v
 refine aCalls_deep ?_
 have hbr := hb.recvq
 have hbr1 := hbr.1
 refine aCalls_go Tryz.func288 rfl (by decide) Tryz.ntmps288 (by simp) false ?_
 have hres : Tryz.f288.results = #[.cell 4 30, .tmp 5] := rfl
 repeat' (first|(with_reducible first|refine bt ?_|refine bf ?_|(first|refine bc ?_ ?_|refine gc ?_ ?_|refine pc ?_ ?_)<;>intro _|refine callCh (chown_c hb) (fun v' J xB xS xR cB cS cR dB dS dR qB qS qR ho => ?_))|simp -implicitDefEqProofs(maxSteps:=2000000)(disch:=first|assumption|omega)[*, ])
 replace ho := ho.lay
 obtain ⟨e1, jR, lR, nR⟩ := ho.recvq.obj hn
 have hdR := (List.getElem?_eq_some_iff.1 jR).1
 have hw := ho.w
 have hgR := ho.gR
 subst e1
 clear ho
 repeat' (first|(with_reducible first|refine bt ?_|refine bf ?_|(first|refine bc ?_ ?_|refine gc ?_ ?_|refine pc ?_ ?_)<;>intro _)|simp -implicitDefEqProofs(maxSteps:=2000000)(disch:=first|assumption|omega)[*, ])
 refine aW_for (β := List LV × List Nat) false c.recvq.length (fun k p => v <+: p.2 ∧ ListsW (cancTo t c.recvq k) p.1) (fun k p => [(8, .int .i64 k), (13, .any), (14, .any), (15, .any), (16, .any), (17, .any), (9, .any), (10, .any), (20, .any), (21, .any), (22, .any), (23, .any), (24, .any), (25, .any), (26, .any), (27, .any), (30, .any), (31, .any), (32, .any), (33, .any), (34, .any), (35, .any), (36, .any), (37, .any), (38, .any), (39, .any), (40, .any), (41, .any), (42, .any), (43, .any), (44, .any), (45, .any), (46, .any), (47, .any), (48, .any), (49, .any), (50, .any), (7, .any), (28, .any), (29, .any), (51, .any), (52, .any), (53, .any), (54, .any), (55, .any), (18, .any), (19, .any)]) (fun _ p => s ++ (AObj.cells [.int .i64 c.now, row c.threads, row c.owners, row c.counts, row c.bufs, row c.lockq, row c.waitq, row c.downq, row c.sendq, row c.recvq] :: AObj.cells [.int .i64 0, .nils, .nils, .nils, .nils, .nils, .nils, .nils, .nils, .nils] :: (J.set dR (.cells p.1) ++ [AObj.cells [.int .i64 c.now, row c.threads, row c.owners, row c.counts, xB, row c.lockq, row c.waitq, row c.downq, xS, .ref 1 (s.length + (dR + 2)) 0 c.recvq.length false]]))) (fun _ p => p.2) ?_ ?_
 ·have hself : J.set dR (.cells cR) = J := by
   refine List.ext_getElem? fun j => ?_
   by_cases e : dR = j
   ·subst e; rw [List.getElem?_set_self hdR, jR]
   ·rw [List.getElem?_set_ne e]
  exact ⟨(cR, v'), ⟨hgR.pre, by simpa [cancTo] using hw.gR⟩, by (refine Fits.of ?_ (Off.refl _ _); simp [upd_apply, upds_cons]), by simp [hself], rfl⟩
 rintro k ⟨cs, v1⟩ hk ⟨hv1, hcs⟩
 simp only at hv1 hcs
 by_cases hlt : k < c.recvq.length
 ·have hx := ix_in (l := c.recvq) (i := (k : Int)) (by omega) (by omega)
  have hrl := hbr.2 _ (nth_mem hlt)
  have hcl : cs.length = c.recvq.length := by rw [hcs.1, cancTo_len]
  have hsucc := cancTo_succ (t := t) hlt
  have hk1 : k + 1 ≤ c.recvq.length := by omega
  have hdl : ∀ X o, (J.set dR o ++ [X])[J.length]? = some X := fun X o => by rw [List.getElem?_append_right (by simp)]; simp
  have hdg : ∀ X cs, (J.set dR (AObj.cells cs) ++ [X])[dR]? = some (.cells cs) := fun X cs => by rw [List.getElem?_append_left (by simpa using hdR), List.getElem?_set_self hdR]
  have hds : ∀ X o o', (J.set dR o ++ [X]).set dR o' = J.set dR o' ++ [X] := fun X o o' => by rw [List.set_append_left _ _ (by simpa using hdR), List.set_set]
  generalize hro : nth c.recvq k = ro at *
  repeat' (first|(with_reducible first|refine bt ?_|refine bf ?_|(first|refine bc ?_ ?_|refine gc ?_ ?_|refine pc ?_ ?_)<;>intro _)|simp -implicitDefEqProofs(maxSteps:=2000000)(disch:=first|assumption|omega)[*, ])
  refine aW_for (β := LV × List Nat) false ro.length (fun j p => Gro v1 p.2 ((ro.take j).filter fun x => decide (x ≠ t)) p.1) (fun j p => [(9, p.1), (10, .int .i64 j), (20, .any), (21, .any), (22, .any), (23, .any), (24, .any), (25, .any), (26, .any), (27, .any), (30, .any), (31, .any), (32, .any), (33, .any), (34, .any), (35, .any), (36, .any), (37, .any), (38, .any), (39, .any), (40, .any), (41, .any), (42, .any), (43, .any), (44, .any), (45, .any), (46, .any), (47, .any), (48, .any), (49, .any), (50, .any), (7, .any), (28, .any), (29, .any)]) (fun _ _ => s ++ (AObj.cells [.int .i64 c.now, row c.threads, row c.owners, row c.counts, row c.bufs, row c.lockq, row c.waitq, row c.downq, row c.sendq, row c.recvq] :: AObj.cells [.int .i64 0, .nils, .nils, .nils, .nils, .nils, .nils, .nils, .nils, .nils] :: (J.set dR (.cells cs) ++ [AObj.cells [.int .i64 c.now, row c.threads, row c.owners, row c.counts, xB, row c.lockq, row c.waitq, row c.downq, xS, .ref 1 (s.length + (dR + 2)) 0 c.recvq.length false]]))) (fun _ p => p.2) ?_ ?_
  ·exact ⟨(.nils, v1), Gro.nil _, by (refine Fits.of ?_ (Off.refl _ _); simp [upd_apply, upds_cons]), rfl, rfl⟩
  rintro j ⟨x, v2⟩ hj hG
  simp only at hG
  by_cases hjl : j < ro.length
  ·have hx2 := ix_in (l := ro) (i := (j : Int)) (by omega) (by omega)
   have hfs := filt_succ (t := t) hjl
   by_cases he : nth ro j = t
   ·rw [if_neg (by simp [he])] at hfs
    repeat' (first|(with_reducible first|refine bt ?_|refine bf ?_|(first|refine bc ?_ ?_|refine gc ?_ ?_|refine pc ?_ ?_)<;>intro _)|simp -implicitDefEqProofs(maxSteps:=2000000)(disch:=first|assumption|omega)[*, ])
    exact ⟨hjl, (x, v2), by show Gro v1 v2 _ x; rw [hfs]; exact hG, by (refine Fits.of ?_ ?_; rotate_left; (repeat (first | with_reducible exact Off.refl _ _ | refine Off.upd rfl ?_ | refine Off.updO rfl ?_ | refine Off.upds rfl ?_)); simp [upd_apply, upds_cons]), rfl, rfl⟩
   ·rw [if_pos he] at hfs
    have hfl : ((ro.take j).filter (fun x => decide (x ≠ t))).length ≤ 1000 := by have h1 := List.length_filter_le (fun x => decide (x ≠ t)) (ro.take j); rw [List.length_take] at h1; omega
    obtain ⟨x2, v3, gy, _, ha⟩ := hG.push (P := Tryz.prog) (t := 23) (t2 := 23) (sz := 1) (by_ := 8) (by kernel_rfl) rfl (by omega) (nth ro j) (ds := [.int .i64 (nth ro j)]) (Weaks.refl _) (by simp) (by omega)
    repeat' (first|(with_reducible first|refine bt ?_|refine bf ?_|(first|refine bc ?_ ?_|refine gc ?_ ?_|refine pc ?_ ?_)<;>intro _)|simp -implicitDefEqProofs(maxSteps:=2000000)(disch:=first|assumption|omega)[*, ])
    exact ⟨hjl, (x2, v3), by show Gro v1 v3 _ x2; rw [hfs]; exact gy, by (refine Fits.of ?_ ?_; rotate_left; (repeat (first | with_reducible exact Off.refl _ _ | refine Off.upd rfl ?_ | refine Off.updO rfl ?_ | refine Off.upds rfl ?_)); simp [upd_apply, upds_cons]), rfl, rfl⟩
  ·have : j = ro.length := by omega
   subst this
   rw [List.take_of_length_le (Nat.le_refl _)] at hG
   have hxc := hG.cells
   repeat' (first|(with_reducible first|refine bt ?_|refine bf ?_|(first|refine bc ?_ ?_|refine gc ?_ ?_|refine pc ?_ ?_)<;>intro _)|simp -implicitDefEqProofs(maxSteps:=2000000)(disch:=first|assumption|omega)[*, ])
   exact ⟨hlt, (cs.set k x, v2), ⟨hv1.trans hG.pre, by show ListsW (cancTo t c.recvq (k + 1)) _; rw [← hsucc]; exact hcs.put hG.weak (hG.under 0)⟩, by (refine Fits.of ?_ ?_; rotate_left; (repeat (first | with_reducible exact Off.refl _ _ | refine Off.upd rfl ?_ | refine Off.updO rfl ?_ | refine Off.upds rfl ?_)); simp [upd_apply, upds_cons]), by simp [hds], rfl⟩
 ·have : k = c.recvq.length := by omega
  subst this
  have hdl : ∀ X o, (J.set dR o ++ [X])[J.length]? = some X := fun X o => by rw [List.getElem?_append_right (by simp)]; simp
  repeat' (first|(with_reducible first|refine bt ?_|refine bf ?_|(first|refine bc ?_ ?_|refine gc ?_ ?_|refine pc ?_ ?_)<;>intro _)|simp -implicitDefEqProofs(maxSteps:=2000000)(disch:=first|assumption|omega)[*, ])
  rw [show cancelC c t = { c with recvq := cancTo t c.recvq c.recvq.length } from by simp [cancelC, cancTo]]
  exact .tup _ _ (.cons _ _ _ _ (((hw.setR hn (L := cancTo t c.recvq c.recvq.length) (cs := cs) (cancTo_len _ _ _) hcs).more _).box _ _).deep (.cons _ _ _ _ (.keep _ rfl) .nil))
end Go.Hb
end

section
namespace Go.Hb
open Go Go.Proofs Go.RowKit
set_option maxRecDepth 100000
set_option maxHeartbeats 800000
attribute [-simp] aC aL aOper aThen aInBlock aIf aPlan aAppend aLen aIndexAddr aSlice aCells aBounds lBr aq initT aev aAppendOwn aAppendNil aAppendNew aAppendRef LV.cells LV.cellsOk getElem?_pos getElem?_neg
attribute [local simp] Cor.lv
theorem send_p {c : Cor} {ch room t x : Int} (hb : CorB c) (h0 : 0 ≤ ch) (h1 : ch < c.bufs.length) (h2 : ch < c.sendq.length) (h3 : ch < c.recvq.length) :
  PureC Tryz.prog 255 [.agg [.int .i64 c.now, row c.threads, row c.owners, row c.counts, row c.bufs, row c.lockq, row c.waitq, row c.downq, row c.sendq, row c.recvq], .int .i64 ch, .int .i64 room, .int .i64 t, .int .i64 x] (.tup [.agg (sendC c ch room t x).1.lv, .int .i64 (sendC c ch room t x).2.1, .bool (sendC c ch room t x).2.2]) := by
 intro s v
 refine aCalls_deep ?_
 have hx3 := ix_in h0 h3
 have b3 := hb.recvq.2 _ (nth_mem (k := ch.toNat) (by omega : ch.toNat < c.recvq.length))
 by_cases hr : 0 < (nth c.recvq ch.toNat).length
 ·have hs : sendC c ch room t x = (cancelC c (nth (nth c.recvq ch.toNat) 0), nth (nth c.recvq ch.toNat) 0, true) := by unfold sendC at'; rw [if_pos hr]
  rw [hs]
  have hx0 := ix_in (l := nth c.recvq ch.toNat) (i := 0) (by omega) (by omega)
  have hc := cancel_p (t := nth (nth c.recvq ch.toNat) 0) hb (by omega)
  clear hs
  generalize cancelC c (nth (nth c.recvq ch.toNat) 0) = u at *
  simp only [Cor.lv] at hc
  refine aCalls_go Tryz.func255 rfl (by decide) Tryz.ntmps255 (by simp) false ?_
  have hres : Tryz.f255.results = #[.cell 10 30, .tmp 11, .tmp 12] := rfl
  repeat' (first|(with_reducible first|refine bt ?_|refine bf ?_|(first|refine bc ?_ ?_|refine gc ?_ ?_|refine pc ?_ ?_)<;>intro _|(refine dr P255 mixed ?_ ?_ ?_;kernel_rfl;kernel_rfl)|refine callC hc (fun v1 hv1 => ?_))|simp -implicitDefEqProofs(maxSteps:=2000000)(disch:=first|assumption|omega)[*, ])
  exact .keep _ (by simp [LV.under, undersB])
 have b1 := hb.bufs.2 _ (nth_mem (k := ch.toNat) (by omega : ch.toNat < c.bufs.length))
 have b2 := hb.sendq.2 _ (nth_mem (k := ch.toNat) (by omega : ch.toNat < c.sendq.length))
 refine aCalls_go Tryz.func255 rfl (by decide) Tryz.ntmps255 (by simp) false ?_
 have hres : Tryz.f255.results = #[.cell 10 30, .tmp 11, .tmp 12] := rfl
 repeat' (first|(with_reducible first|refine bt ?_|refine bf ?_|(first|refine bc ?_ ?_|refine gc ?_ ?_|refine pc ?_ ?_)<;>intro _|(refine dr P255 mixed ?_ ?_ ?_;kernel_rfl;kernel_rfl)|refine callCh (chown_c hb) (fun v' J xB xS xR cB cS cR dB dS dR qB qS qR ho => ?_))|simp -implicitDefEqProofs(maxSteps:=2000000)(disch:=first|assumption|omega)[*, ])
 replace ho := ho.lay
 obtain ⟨e1, jB, lB, nB⟩ := ho.bufs.obj (by omega)
 obtain ⟨e2, jS, lS, nS⟩ := ho.sendq.obj (by omega)
 have hw := ho.w
 have hgB := ho.gB
 have hgS := ho.gS
 subst e1 e2
 clear ho
 obtain ⟨y, gy1, gy2⟩ := hgB.at_ ch.toNat (by omega)
 obtain ⟨z, gz1, gz2⟩ := hgS.at_ ch.toNat (by omega)
 have hyc := gy2.gro.cells
 have hzc := gz2.gro.cells
 have hyl := gy2.gro.len (P := Tryz.prog) (t := 23) (by kernel_rfl)
 have hm1 : ch.toNat + 1 ≤ c.bufs.length := by omega
 have hm2 : ch.toNat + 1 ≤ c.sendq.length := by omega
 obtain ⟨y2, v2, gy, _, ha⟩ := gy2.push (P := Tryz.prog) (t := 23) (t2 := 23) (sz := 1) (by_ := 8) (by kernel_rfl) rfl (by omega) x (by omega)
 obtain ⟨z2, v3, gz, _, ha2⟩ := gz2.push2 (P := Tryz.prog) (t := 23) (t2 := 23) (by_ := 8) (by kernel_rfl) (by omega) t x (by omega)
 simp only [enc_int] at ha
 have hyc2 := gy.gro.cells
 have hzc2 := gz.gro.cells
 by_cases hrm : ((nth c.bufs ch.toNat).length : Int) < room
 ·have hs : sendC c ch room t x = ({ c with bufs := c.bufs.set ch.toNat (nth c.bufs ch.toNat ++ [x]) }, -1, true) := by unfold sendC at'; rw [if_neg hr, if_pos hrm]
  rw [hs]
  clear hs
  have hpre := gy.1
  repeat' (first|(with_reducible first|refine bt ?_|refine bf ?_|(first|refine bc ?_ ?_|refine gc ?_ ?_|refine pc ?_ ?_)<;>intro _|(refine dr P255 mixed ?_ ?_ ?_;kernel_rfl;kernel_rfl))|simp -implicitDefEqProofs(maxSteps:=2000000)(disch:=first|assumption|omega)[*, ])
  exact .tup _ _ (.cons _ _ _ _ ((hw.setB (by omega) (L := c.bufs.set ch.toNat (nth c.bufs ch.toNat ++ [x])) (cs := cB.set ch.toNat y2) (by simp) (hgB.weak.put gy.gro.weak (gy.gro.under 0))).box _ _).deep (.cons _ _ _ _ (.keep _ rfl) (.cons _ _ _ _ (.keep _ rfl) .nil)))
 ·have hs : sendC c ch room t x = ({ c with sendq := c.sendq.set ch.toNat (nth c.sendq ch.toNat ++ [t, x]) }, -1, false) := by unfold sendC at'; rw [if_neg hr, if_neg hrm]
  rw [hs]
  clear hs
  have hpre := gz.1
  repeat' (first|(with_reducible first|refine bt ?_|refine bf ?_|(first|refine bc ?_ ?_|refine gc ?_ ?_|refine pc ?_ ?_)<;>intro _|(refine dr P255 mixed ?_ ?_ ?_;kernel_rfl;kernel_rfl))|simp -implicitDefEqProofs(maxSteps:=2000000)(disch:=first|assumption|omega)[*, ])
  exact .tup _ _ (.cons _ _ _ _ ((hw.setS (by omega) (L := c.sendq.set ch.toNat (nth c.sendq ch.toNat ++ [t, x])) (cs := cS.set ch.toNat z2) (by simp) (hgS.weak.put gz.gro.weak (gz.gro.under 0))).box _ _).deep (.cons _ _ _ _ (.keep _ rfl) (.cons _ _ _ _ (.keep _ rfl) .nil)))
end Go.Hb
end

