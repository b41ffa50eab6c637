/-
  A layer for reasoning about the program's calls, and contracts of its functions (MG). CONDITIONS: none; each theorem bears its own.
-/
import Derived.Test.YtdnbmcnckojglaaGreatMF
set_option linter.unusedVariables false
set_option linter.unusedSimpArgs false
namespace Go.Hb
open Go Go.Proofs Go.RowKit
set_option maxRecDepth 100000
set_option maxHeartbeats 800000
attribute [-simp] aC aL aOper aThen aInBlock aIf aPlan aAppend aLen aIndexAddr aSlice aCells aBounds lBr aq initT aev aAppendOwn aAppendNil aAppendNew aAppendRef LV.cells LV.cellsOk getElem?_pos getElem?_neg
attribute [local simp] Cor.lv rowCs_set
theorem callUnl {c : Cor} {m t : Int} {f : FuncId} {args : List LV} {s : List AObj} {v : List Nat} {K : LV → List AObj → List Nat → Prop} (h : aCalls Tryz.prog f args s v (UnlR c m t s v)) (he : nth c.owners m.toNat = t)
  (k : ∀ v' J a b xO xC xL xW xD cL cW cD dO dC dL dW dD, (xO.cells = [xO] ∧ xO.cellsOk = true) → (xC.cells = [xC] ∧ xC.cellsOk = true) → (xL.cells = [xL] ∧ xL.cellsOk = true) → (xW.cells = [xW] ∧ xW.cellsOk = true) → (xD.cells = [xD] ∧ xD.cellsOk = true) →
   OwnW s J a b (unlockC c m t).1 xO xC xL xW xD cL cW cD dO dC dL dW dD → ListsG v v' c.waitq cW →
   K (.tup [.agg [.int .i64 (unlockC c m t).1.now, row (unlockC c m t).1.threads, xO, xC, row (unlockC c m t).1.bufs, xL, xW, xD, row (unlockC c m t).1.sendq, row (unlockC c m t).1.recvq], .int .i64 (unlockC c m t).2.1, .int .i64 0]) (s ++ (a :: b :: J)) v') : aCalls Tryz.prog f args s v K := by
 refine aCalls_mono h ?_
 rintro y s' v' (⟨hne, _⟩ | ⟨_, J, a, b, xO, xC, xL, xW, xD, cL, cW, cD, dO, dC, dL, dW, dD, rfl, rfl, hw, hg⟩)
 ·exact absurd he hne
 ·exact k v' J a b xO xC xL xW xD cL cW cD dO dC dL dW dD hw.owners.cells hw.counts.cells hw.lockq.cells hw.waitq.cells hw.downq.cells hw hg
theorem callUnlN {c : Cor} {m t : Int} {f : FuncId} {args : List LV} {s : List AObj} {v : List Nat} {K : LV → List AObj → List Nat → Prop} (h : aCalls Tryz.prog f args s v (UnlR c m t s v)) (he : nth c.owners m.toNat ≠ t)
  (k : K (.tup [.agg c.lv, .int .i64 (-1), .int .i64 10]) s v) : aCalls Tryz.prog f args s v K := by
 refine aCalls_mono h ?_
 rintro y s' v' (⟨hne, rfl, rfl, rfl⟩ | ⟨h2, _⟩)
 ·exact k
 ·exact absurd h2 he
theorem wait_p {c : Cor} {cd m t : Int} (hb : CorB c) (h0 : 0 ≤ m) (h1 : m < c.owners.length) (h2 : m < c.lockq.length) (hc0 : 0 ≤ cd) (hc1 : cd < c.waitq.length) : PureC Tryz.prog 251 [.agg [.int .i64 c.now, row c.threads, row c.owners, row c.counts, row c.bufs, row c.lockq, row c.waitq, row c.downq, row c.sendq, row c.recvq], .int .i64 cd, .int .i64 m, .int .i64 t] (.tup [.agg (waitC c cd m t).1.lv, .int .i64 (waitC c cd m t).2.1, .int .i64 (waitC c cd m t).2.2]) := by
 intro s v
 refine aCalls_deep ?_
 have hu := fun s v => unlock_o (t := t) hb h0 h1 h2 (s := s) (v := v)
 have hbw := hb.waitq
 have hmw : cd.toNat < c.waitq.length := by omega
 have hcm : cd.toNat + 1 ≤ c.waitq.length := by omega
 by_cases he : nth c.owners m.toNat = t
 rotate_left
 ·have huc : unlockC c m t = (c, -1, 10) := by unfold unlockC at'; rw [if_pos he]
  have hw : waitC c cd m t = (c, -1, 10) := by unfold waitC; rw [huc, if_pos (by simp)]
  rw [hw]
  refine aCalls_go Tryz.func251 rfl (by decide) Tryz.ntmps251 (by simp) false ?_
  have hres : Tryz.f251.results = #[.cell 8 30, .tmp 9, .tmp 10] := rfl
  repeat' (first|(with_reducible first|refine bt ?_|refine bf ?_|(first|refine bc ?_ ?_|refine gc ?_ ?_|refine pc ?_ ?_)<;>intro _|(refine dr P251 mixed ?_ ?_ ?_;kernel_rfl;kernel_rfl)|refine callUnlN (hu _ _) he ?_)|simp -implicitDefEqProofs(maxSteps:=2000000)(disch:=first|assumption|omega)[*, ])
  exact .keep _ (by simp [LV.under, undersB])
 have hu0 : (unlockC c m t).2.2 = 0 := by unfold unlockC at'; rw [if_neg (by simp [he])]; split <;> rfl
 have huw : (unlockC c m t).1.waitq = c.waitq := by unfold unlockC at'; rw [if_neg (by simp [he])]; split <;> rfl
 have hw : waitC c cd m t = ({ (unlockC c m t).1 with waitq := c.waitq.set cd.toNat (nth c.waitq cd.toNat ++ [t]) }, (unlockC c m t).2.1, 0) := by unfold waitC at'; rw [if_neg (by simp [hu0]), huw, hu0]
 rw [hw]
 refine aCalls_go Tryz.func251 rfl (by decide) Tryz.ntmps251 (by simp) false ?_
 have hres : Tryz.f251.results = #[.cell 8 30, .tmp 9, .tmp 10] := rfl
 repeat' (first|(with_reducible first|refine bt ?_|refine bf ?_|(first|refine bc ?_ ?_|refine gc ?_ ?_|refine pc ?_ ?_)<;>intro _|(refine dr P251 mixed ?_ ?_ ?_;kernel_rfl;kernel_rfl)|refine callUnl (hu _ _) he (fun v' J a b xO xC xL xW xD cL cW cD dO dC dL dW dD qO qC qL qW qD hw hg => ?_))|simp -implicitDefEqProofs(maxSteps:=2000000)(disch:=first|assumption|omega)[*, ])
 replace hw := hw.lift
 have hne : (unlockC c m t).1.waitq.length ≠ 0 := by rw [huw]; omega
 obtain ⟨e1, jW, lW, nW⟩ := hw.waitq.obj hne
 simp only [List.getElem?_cons_succ] at jW
 have hdW := (List.getElem?_eq_some_iff.1 jW).1
 obtain ⟨x, gx1, gx2⟩ := hg.at_ cd.toNat hmw
 have hxc := gx2.gro.cells
 obtain ⟨x2, v2, gy, _, ha⟩ := gx2.push (P := Tryz.prog) (t := 23) (t2 := 23) (sz := 1) (by_ := 8) (by kernel_rfl) rfl (by omega) t (by have := hbw.2 _ (nth_mem hmw); omega)
 simp only [enc_int] at ha
 have hyc := gy.gro.cells
 have hJX : ∀ X, (J ++ [X])[dW]? = some (.cells cW) := fun X => by rw [List.getElem?_append_left hdW]; exact jW
 have hJS : ∀ X o, (J ++ [X]).set dW o = J.set dW o ++ [X] := fun X o => by rw [List.set_append_left _ _ hdW]
 have hJL : ∀ X o, (J.set dW o ++ [X])[J.length]? = some X := fun X o => by rw [List.getElem?_append_right (by simp)]; simp
 rw [huw] at e1 lW
 subst e1
 have hw3 := fun X p q => (((hw.more [X]).setW hne (L := c.waitq.set cd.toNat (nth c.waitq cd.toNat ++ [t])) (cs := cW.set cd.toNat x2) (by rw [huw]; simp) (by have := hw.gW; rw [huw] at this; exact this.put gy.gro.weak (gy.gro.under 0))).box p q).cast (J' := a :: b :: (J.set dW (.cells (cW.set cd.toNat x2)) ++ [X])) (by simp [hJS])
 clear hw hu
 generalize unlockC c m t = u at *
 have hpre := gy.1
 repeat' (first|(with_reducible first|refine bt ?_|refine bf ?_|(first|refine bc ?_ ?_|refine gc ?_ ?_|refine pc ?_ ?_)<;>intro _|(refine dr P251 mixed ?_ ?_ ?_;kernel_rfl;kernel_rfl))|simp -implicitDefEqProofs(maxSteps:=2000000)(disch:=first|assumption|omega)[*, ])
 exact .tup _ _ (.cons _ _ _ _ (hw3 _ _ _).deep (.cons _ _ _ _ (.keep _ rfl) (.cons _ _ _ _ (.keep _ rfl) .nil)))
theorem signal_p {c : Cor} {cd m : Int} (hb : CorB c) (h0 : 0 ≤ m) (h1 : m < c.owners.length) (h2 : m < c.lockq.length) (hc0 : 0 ≤ cd) (hc1 : cd < c.waitq.length) : PureC Tryz.prog 252 [.agg [.int .i64 c.now, row c.threads, row c.owners, row c.counts, row c.bufs, row c.lockq, row c.waitq, row c.downq, row c.sendq, row c.recvq], .int .i64 cd, .int .i64 m] (.tup [.agg (signalC c cd m).1.lv, .int .i64 (signalC c cd m).2.1, .bool (signalC c cd m).2.2]) := by
 intro s v
 refine aCalls_deep ?_
 have hbw := hb.waitq
 have hmw : cd.toNat < c.waitq.length := by omega
 have hcm : cd.toNat + 1 ≤ c.waitq.length := by omega
 have hix := ix_in hc0 hc1
 by_cases hz : (nth c.waitq cd.toNat).length = 0
 ·have hs : signalC c cd m = (c, -1, false) := by unfold signalC at'; rw [if_pos hz]
  rw [hs]
  refine aCalls_go Tryz.func252 rfl (by decide) Tryz.ntmps252 (by simp) false ?_
  have hres : Tryz.f252.results = #[.cell 6 30, .tmp 7, .tmp 8] := rfl
  repeat' (first|(with_reducible first|refine bt ?_|refine bf ?_|(first|refine bc ?_ ?_|refine gc ?_ ?_|refine pc ?_ ?_)<;>intro _|(refine dr P252 mixed ?_ ?_ ?_;kernel_rfl;kernel_rfl))|simp -implicitDefEqProofs(maxSteps:=2000000)(disch:=first|assumption|omega)[*, ])
  exact .keep _ (by simp [LV.under, undersB])
 have hs : signalC c cd m = ((lockC { c with waitq := c.waitq.set cd.toNat ((nth c.waitq cd.toNat).drop 1) } m (nth (nth c.waitq cd.toNat) 0)).1, nth (nth c.waitq cd.toNat) 0, (lockC { c with waitq := c.waitq.set cd.toNat ((nth c.waitq cd.toNat).drop 1) } m (nth (nth c.waitq cd.toNat) 0)).2) := by unfold signalC at'; rw [if_neg hz]
 rw [hs]
 have hi0 := ix_in (l := nth c.waitq cd.toNat) (i := 0) (by omega) (by omega)
 have hlk : PureC Tryz.prog 249 [.agg (Cor.lv { c with waitq := c.waitq.set cd.toNat ((nth c.waitq cd.toNat).drop 1) }), .int .i64 m, .int .i64 (nth (nth c.waitq cd.toNat) 0)] _ :=
  lock_p (c := { c with waitq := c.waitq.set cd.toNat ((nth c.waitq cd.toNat).drop 1) }) (t := nth (nth c.waitq cd.toNat) 0) ⟨hb.threads, hb.owners, hb.counts, hb.bufs, hb.lockq, ⟨by simp; exact hbw.1, fun l hl => by
   rcases List.mem_or_eq_of_mem_set hl with hl | rfl
   ·exact hbw.2 l hl
   ·have := hbw.2 _ (nth_mem hmw); simp; omega⟩, hb.downq, hb.sendq, hb.recvq⟩ h0 h1 h2
 clear hs
 generalize lockC { c with waitq := c.waitq.set cd.toNat ((nth c.waitq cd.toNat).drop 1) } m (nth (nth c.waitq cd.toNat) 0) = u at *
 refine aCalls_go Tryz.func252 rfl (by decide) Tryz.ntmps252 (by simp) false ?_
 have hres : Tryz.f252.results = #[.cell 6 30, .tmp 7, .tmp 8] := rfl
 repeat' (first|(with_reducible first|refine bt ?_|refine bf ?_|(first|refine bc ?_ ?_|refine gc ?_ ?_|refine pc ?_ ?_)<;>intro _|(refine dr P252 mixed ?_ ?_ ?_;kernel_rfl;kernel_rfl)|refine callOwn (own_c hb) (fun v' J xO xC xL xW xD cL cW cD dO dC dL dW dD qO qC qL qW qD ho => ?_))|simp -implicitDefEqProofs(maxSteps:=2000000)(disch:=first|assumption|omega)[*, ])
 replace ho := ho.lay
 obtain ⟨e2, jW, lW, nW⟩ := ho.waitq.obj (by omega)
 obtain ⟨x, gx1, gx2⟩ := ho.gW.at_ cd.toNat hmw
 have hxc := gx2.gro.cells
 have hxl := gx2.gro.len (P := Tryz.prog) (t := 23) (by kernel_rfl)
 have hxi := fun i => gx2.ix (P := Tryz.prog) (t := 23) (κ := .i64) (i := i)
 obtain ⟨y, hy1, gy⟩ := gx2.slice (P := Tryz.prog) (t := 23) (a := 1) (by simp) (by omega) (by omega)
 have hyc := gy.gro.cells
 simp only [show (1 : Int).toNat = 1 from rfl] at gy
 have hw := ho.w.setW (by omega) (L := c.waitq.set cd.toNat ((nth c.waitq cd.toNat).drop 1)) (cs := cW.set cd.toNat y) (by simp) (ho.gW.weak.put gy.gro.weak (gy.gro.under 0))
 have hpre := ho.gW.pre
 subst e2
 clear ho
 repeat' (first|(with_reducible first|refine bt ?_|refine bf ?_|(first|refine bc ?_ ?_|refine gc ?_ ?_|refine pc ?_ ?_)<;>intro _|(refine dr P252 mixed ?_ ?_ ?_;kernel_rfl;kernel_rfl))|simp -implicitDefEqProofs(maxSteps:=2000000)(disch:=first|assumption|omega)[*, ])
 refine (hw.box _ _).call (fun J' hJ' => ?_)
 refine callC hlk (fun v2 hv2 => ?_)
 have hpre2 := hpre.trans hv2
 replace hJ' : J.length = J'.length := by rw [hJ']; simp
 clear hw hlk
 repeat' (first|(with_reducible first|refine bt ?_|refine bf ?_|(first|refine bc ?_ ?_|refine gc ?_ ?_|refine pc ?_ ?_)<;>intro _|(refine dr P252 mixed ?_ ?_ ?_;kernel_rfl;kernel_rfl))|simp -implicitDefEqProofs(maxSteps:=2000000)(disch:=first|assumption|omega)[*, ])
 exact .keep _ (by simp [LV.under, undersB])
end Go.Hb
