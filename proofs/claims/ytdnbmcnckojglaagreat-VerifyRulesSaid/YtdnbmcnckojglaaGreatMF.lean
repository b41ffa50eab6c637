/-
  A layer for reasoning about the program's calls, and contracts of its functions (MF). CONDITIONS: none; each theorem bears its own.
-/
import Derived.Test.YtdnbmcnckojglaaGreatME
set_option linter.unusedVariables false
set_option linter.unusedSimpArgs false
namespace Go.Hb
open Go Go.Proofs Go.RowKit
set_option maxRecDepth 100000
set_option maxHeartbeats 800000
attribute [-simp] aC aL aOper aThen aInBlock aIf aPlan aAppend aLen aIndexAddr aSlice aCells aBounds lBr aq initT aev aAppendOwn aAppendNil aAppendNew aAppendRef LV.cells LV.cellsOk getElem?_pos getElem?_neg
attribute [local simp] Cor.lv rowCs_set

theorem own_c {c : Cor} (hb : CorB c) {s : List AObj} {v : List Nat} : aCalls Tryz.prog 287 [.agg [.int .i64 c.now, row c.threads, row c.owners, row c.counts, row c.bufs, row c.lockq, row c.waitq, row c.downq, row c.sendq, row c.recvq]] s v (OwnR c s v) :=
 own_o (by have := hb.owners; omega) (by have := hb.counts; omega) hb.lockq.big hb.waitq.big hb.downq.big
theorem lock_p {c : Cor} {m t : Int} (hb : CorB c) (h0 : 0 ≤ m) (h1 : m < c.owners.length) (h2 : m < c.lockq.length) : PureC Tryz.prog 249 [.agg [.int .i64 c.now, row c.threads, row c.owners, row c.counts, row c.bufs, row c.lockq, row c.waitq, row c.downq, row c.sendq, row c.recvq], .int .i64 m, .int .i64 t] (.tup [.agg (lockC c m t).1.lv, .bool (lockC c m t).2]) := by
 intro s v
 refine aCalls_deep ?_
 have hbo := hb.owners
 have hbl := hb.lockq
 have hmm : m.toNat < c.owners.length := by omega
 have hml : m.toNat < c.lockq.length := by omega
 refine aCalls_go Tryz.func249 rfl (by decide) Tryz.ntmps249 (by simp) false ?_
 have hres : Tryz.f249.results = #[.cell 6 30, .tmp 7] := rfl
 repeat' (first|(with_reducible first|refine bt ?_|refine bf ?_|(first|refine bc ?_ ?_|refine gc ?_ ?_|refine pc ?_ ?_)<;>intro _|(refine dr P249 mixed ?_ ?_ ?_;kernel_rfl;kernel_rfl)|refine callOwn (own_c hb) (fun v' J xO xC xL xW xD cL cW cD dO dC dL dW dD qO qC qL qW qD ho => ?_))|simp -implicitDefEqProofs(maxSteps:=2000000)(disch:=first|assumption|omega)[*, ])
 replace ho := ho.lay
 obtain ⟨rfl, jO, lO, nO⟩ := ho.owners.obj (by omega)
 obtain ⟨rfl, jL, lL, nL⟩ := ho.lockq.obj (by omega)
 obtain ⟨x, gx1, gx2⟩ := ho.gL.at_ m.toNat hml
 have hix := ix_in h0 h1
 have eO := rowCs_get hmm
 have hm1 : m.toNat + 1 ≤ c.owners.length := by omega
 have hm2 : m.toNat + 1 ≤ c.lockq.length := by omega
 have hxc := gx2.gro.cells
 obtain ⟨x2, v2, gy, _, ha⟩ := gx2.push (P := Tryz.prog) (t := 23) (t2 := 23) (sz := 1) (by_ := 8) (by kernel_rfl) rfl (by omega) t (by have := hbl.2 _ (nth_mem hml); omega)
 simp only [enc_int] at ha
 have hyc := gy.gro.cells
 unfold lockC at'
 by_cases hg : 0 ≤ nth c.owners m.toNat
 ·rw [if_pos hg]
  repeat' (first|(with_reducible first|refine bt ?_|refine bf ?_|(first|refine bc ?_ ?_|refine gc ?_ ?_|refine pc ?_ ?_)<;>intro _|(refine dr P249 mixed ?_ ?_ ?_;kernel_rfl;kernel_rfl))|simp -implicitDefEqProofs(maxSteps:=2000000)(disch:=first|assumption|omega)[*, ])
  exact ⟨_, .tup _ _ (.cons _ _ _ _ ((ho.w.setL (by omega) (L := c.lockq.set m.toNat (nth c.lockq m.toNat ++ [t])) (cs := cL.set m.toNat x2) (by simp) (ho.gL.weak.put gy.gro.weak (gy.gro.under 0))).box _ _).deep (.cons _ _ _ _ (.keep _ rfl) .nil)), rfl, gy.1⟩
 ·rw [if_neg hg]
  repeat' (first|(with_reducible first|refine bt ?_|refine bf ?_|(first|refine bc ?_ ?_|refine gc ?_ ?_|refine pc ?_ ?_)<;>intro _|(refine dr P249 mixed ?_ ?_ ?_;kernel_rfl;kernel_rfl))|simp -implicitDefEqProofs(maxSteps:=2000000)(disch:=first|assumption|omega)[*, ])
  exact ⟨_, .tup _ _ (.cons _ _ _ _ ((ho.w.setO (by omega) (l := c.owners.set m.toNat t) (by simp)).box _ _).deep (.cons _ _ _ _ (.keep _ rfl) .nil)), rfl, ho.gL.pre⟩
theorem down_p {c : Cor} {m t : Int} (hb : CorB c) (h0 : 0 ≤ m) (h1 : m < c.counts.length) (h2 : m < c.downq.length) (h3 : 0 ≤ nth c.counts m.toNat ∧ nth c.counts m.toNat ≤ 1073741824) : PureC Tryz.prog 253 [.agg [.int .i64 c.now, row c.threads, row c.owners, row c.counts, row c.bufs, row c.lockq, row c.waitq, row c.downq, row c.sendq, row c.recvq], .int .i64 m, .int .i64 t] (.tup [.agg (downC c m t).1.lv, .bool (downC c m t).2]) := by
 intro s v
 refine aCalls_deep ?_
 have hbo := hb.counts
 have hbl := hb.downq
 have hmm : m.toNat < c.counts.length := by omega
 have hml : m.toNat < c.downq.length := by omega
 refine aCalls_go Tryz.func253 rfl (by decide) Tryz.ntmps253 (by simp) false ?_
 have hres : Tryz.f253.results = #[.cell 6 30, .tmp 7] := rfl
 repeat' (first|(with_reducible first|refine bt ?_|refine bf ?_|(first|refine bc ?_ ?_|refine gc ?_ ?_|refine pc ?_ ?_)<;>intro _|(refine dr P253 mixed ?_ ?_ ?_;kernel_rfl;kernel_rfl)|refine callOwn (own_c hb) (fun v' J xO xC xL xW xD cL cW cD dO dC dL dW dD qO qC qL qW qD ho => ?_))|simp -implicitDefEqProofs(maxSteps:=2000000)(disch:=first|assumption|omega)[*, ])
 replace ho := ho.lay
 obtain ⟨rfl, jO, lO, nO⟩ := ho.counts.obj (by omega)
 obtain ⟨rfl, jL, lL, nL⟩ := ho.downq.obj (by omega)
 obtain ⟨x, gx1, gx2⟩ := ho.gD.at_ m.toNat hml
 have hix := ix_in h0 h1
 have eO := rowCs_get hmm
 have hm1 : m.toNat + 1 ≤ c.counts.length := by omega
 have hm2 : m.toNat + 1 ≤ c.downq.length := by omega
 have hxc := gx2.gro.cells
 obtain ⟨x2, v2, gy, _, ha⟩ := gx2.push (P := Tryz.prog) (t := 23) (t2 := 23) (sz := 1) (by_ := 8) (by kernel_rfl) rfl (by omega) t (by have := hbl.2 _ (nth_mem hml); omega)
 simp only [enc_int] at ha
 have hyc := gy.gro.cells
 unfold downC at'
 by_cases hg : nth c.counts m.toNat = 0
 ·rw [if_pos hg]
  repeat' (first|(with_reducible first|refine bt ?_|refine bf ?_|(first|refine bc ?_ ?_|refine gc ?_ ?_|refine pc ?_ ?_)<;>intro _|(refine dr P253 mixed ?_ ?_ ?_;kernel_rfl;kernel_rfl))|simp -implicitDefEqProofs(maxSteps:=2000000)(disch:=first|assumption|omega)[*, ])
  exact ⟨_, .tup _ _ (.cons _ _ _ _ ((ho.w.setD (by omega) (L := c.downq.set m.toNat (nth c.downq m.toNat ++ [t])) (cs := cD.set m.toNat x2) (by simp) (ho.gD.weak.put gy.gro.weak (gy.gro.under 0))).box _ _).deep (.cons _ _ _ _ (.keep _ rfl) .nil)), rfl, gy.1⟩
 ·rw [if_neg hg]
  repeat' (first|(with_reducible first|refine bt ?_|refine bf ?_|(first|refine bc ?_ ?_|refine gc ?_ ?_|refine pc ?_ ?_)<;>intro _|(refine dr P253 mixed ?_ ?_ ?_;kernel_rfl;kernel_rfl))|simp -implicitDefEqProofs(maxSteps:=2000000)(disch:=first|assumption|omega)[*, ])
  exact ⟨_, .tup _ _ (.cons _ _ _ _ ((ho.w.setC (by omega) (l := c.counts.set m.toNat (nth c.counts m.toNat - 1)) (by simp)).box _ _).deep (.cons _ _ _ _ (.keep _ rfl) .nil)), rfl, ho.gL.pre⟩
theorem up_p {c : Cor} {m : Int} (hb : CorB c) (h0 : 0 ≤ m) (h1 : m < c.counts.length) (h2 : m < c.downq.length) (h3 : 0 ≤ nth c.counts m.toNat ∧ nth c.counts m.toNat ≤ 1073741824) : PureC Tryz.prog 254 [.agg [.int .i64 c.now, row c.threads, row c.owners, row c.counts, row c.bufs, row c.lockq, row c.waitq, row c.downq, row c.sendq, row c.recvq], .int .i64 m] (.tup [.agg (upC c m).1.lv, .int .i64 (upC c m).2]) := by
 intro s v
 refine aCalls_deep ?_
 have hbo := hb.counts
 have hbl := hb.downq
 have hmm : m.toNat < c.counts.length := by omega
 have hml : m.toNat < c.downq.length := by omega
 refine aCalls_go Tryz.func254 rfl (by decide) Tryz.ntmps254 (by simp) false ?_
 have hres : Tryz.f254.results = #[.cell 4 30, .tmp 5] := rfl
 repeat' (first|(with_reducible first|refine bt ?_|refine bf ?_|(first|refine bc ?_ ?_|refine gc ?_ ?_|refine pc ?_ ?_)<;>intro _|(refine dr P254 mixed ?_ ?_ ?_;kernel_rfl;kernel_rfl)|refine callOwn (own_c hb) (fun v' J xO xC xL xW xD cL cW cD dO dC dL dW dD qO qC qL qW qD ho => ?_))|simp -implicitDefEqProofs(maxSteps:=2000000)(disch:=first|assumption|omega)[*, ])
 replace ho := ho.lay
 obtain ⟨rfl, jO, lO, nO⟩ := ho.counts.obj (by omega)
 obtain ⟨rfl, jL, lL, nL⟩ := ho.downq.obj (by omega)
 obtain ⟨x, gx1, gx2⟩ := ho.gD.at_ m.toNat hml
 have hix := ix_in h0 h1
 have eO := rowCs_get hmm
 have hm1 : m.toNat + 1 ≤ c.counts.length := by omega
 have hm2 : m.toNat + 1 ≤ c.downq.length := by omega
 have hxc := gx2.gro.cells
 have hxl := gx2.gro.len (P := Tryz.prog) (t := 23) (by kernel_rfl)
 have hxi := fun i => gx2.ix (P := Tryz.prog) (t := 23) (κ := .i64) (i := i)
 have hpre := ho.gL.pre
 unfold upC at'
 by_cases hg : (nth c.downq m.toNat).length = 0
 ·rw [if_pos hg]
  by_cases hc : nth c.counts m.toNat < 1073741824
  ·rw [if_pos hc]
   repeat' (first|(with_reducible first|refine bt ?_|refine bf ?_|(first|refine bc ?_ ?_|refine gc ?_ ?_|refine pc ?_ ?_)<;>intro _|(refine dr P254 mixed ?_ ?_ ?_;kernel_rfl;kernel_rfl))|simp -implicitDefEqProofs(maxSteps:=2000000)(disch:=first|assumption|omega)[*, ])
   exact .tup _ _ (.cons _ _ _ _ ((ho.w.setC (by omega) (l := c.counts.set m.toNat (nth c.counts m.toNat + 1)) (by simp)).box _ _).deep (.cons _ _ _ _ (.keep _ rfl) .nil))
  ·rw [if_neg hc]
   repeat' (first|(with_reducible first|refine bt ?_|refine bf ?_|(first|refine bc ?_ ?_|refine gc ?_ ?_|refine pc ?_ ?_)<;>intro _|(refine dr P254 mixed ?_ ?_ ?_;kernel_rfl;kernel_rfl))|simp -implicitDefEqProofs(maxSteps:=2000000)(disch:=first|assumption|omega)[*, ])
   exact .tup _ _ (.cons _ _ _ _ (ho.w.box _ _).deep (.cons _ _ _ _ (.keep _ rfl) .nil))
 ·rw [if_neg hg]
  have hi0 := ix_in (l := nth c.downq m.toNat) (i := 0) (by omega) (by omega)
  obtain ⟨y, hy1, gy⟩ := gx2.slice (P := Tryz.prog) (t := 23) (a := 1) (by simp) (by omega) (by omega)
  have hyc := gy.gro.cells
  simp only [show (1 : Int).toNat = 1 from rfl, List.drop_one] at gy
  repeat' (first|(with_reducible first|refine bt ?_|refine bf ?_|(first|refine bc ?_ ?_|refine gc ?_ ?_|refine pc ?_ ?_)<;>intro _|(refine dr P254 mixed ?_ ?_ ?_;kernel_rfl;kernel_rfl))|simp -implicitDefEqProofs(maxSteps:=2000000)(disch:=first|assumption|omega)[*, ])
  exact .tup _ _ (.cons _ _ _ _ ((ho.w.setD (by omega) (L := c.downq.set m.toNat (nth c.downq m.toNat).tail) (cs := cD.set m.toNat y) (by simp) (ho.gD.weak.put gy.gro.weak (gy.gro.under 0))).box _ _).deep (.cons _ _ _ _ (.keep _ rfl) .nil))
def UnlR (c : Cor) (m t : Int) (s : List AObj) (v : List Nat) (y : LV) (s' : List AObj) (v' : List Nat) : Prop :=
 (nth c.owners m.toNat ≠ t ∧ s = s' ∧ v = v' ∧ y = .tup [.agg c.lv, .int .i64 (-1), .int .i64 10]) ∨
 (nth c.owners m.toNat = t ∧ ∃ J a b xO xC xL xW xD cL cW cD dO dC dL dW dD, s ++ (a :: b :: J) = s' ∧ y = .tup [.agg [.int .i64 (unlockC c m t).1.now, row (unlockC c m t).1.threads, xO, xC, row (unlockC c m t).1.bufs, xL, xW, xD, row (unlockC c m t).1.sendq, row (unlockC c m t).1.recvq], .int .i64 (unlockC c m t).2.1, .int .i64 0] ∧
  OwnW s J a b (unlockC c m t).1 xO xC xL xW xD cL cW cD dO dC dL dW dD ∧ ListsG v v' c.waitq cW)
theorem unlock_o {c : Cor} {m t : Int} (hb : CorB c) (h0 : 0 ≤ m) (h1 : m < c.owners.length) (h2 : m < c.lockq.length) {s : List AObj} {v : List Nat} : aCalls Tryz.prog 250 [.agg [.int .i64 c.now, row c.threads, row c.owners, row c.counts, row c.bufs, row c.lockq, row c.waitq, row c.downq, row c.sendq, row c.recvq], .int .i64 m, .int .i64 t] s v (UnlR c m t s v) := by
 have hbo := hb.owners
 have hbl := hb.lockq
 have hmm : m.toNat < c.owners.length := by omega
 have hml : m.toNat < c.lockq.length := by omega
 have hix := ix_in h0 h1
 by_cases hne : nth c.owners m.toNat = t
 rotate_left
 ·have h : PureE Tryz.prog 250 [.agg [.int .i64 c.now, row c.threads, row c.owners, row c.counts, row c.bufs, row c.lockq, row c.waitq, row c.downq, row c.sendq, row c.recvq], .int .i64 m, .int .i64 t] (.tup [.agg c.lv, .int .i64 (-1), .int .i64 10]) := by
   refine .of fun s v => ?_
   simp only [Cor.lv]
   refine aCalls_go Tryz.func250 rfl (by decide) Tryz.ntmps250 (by simp) false ?_
   have hres : Tryz.f250.results = #[.cell 6 30, .tmp 7, .tmp 8] := rfl
   repeat' (first|(with_reducible first|refine bt ?_|refine bf ?_|(first|refine bc ?_ ?_|refine gc ?_ ?_|refine pc ?_ ?_)<;>intro _|(refine dr P250 mixed ?_ ?_ ?_;kernel_rfl;kernel_rfl))|simp -implicitDefEqProofs(maxSteps:=2000000)(disch:=first|assumption|omega)[*, ])
   exact EndsE.eqat rfl (by simp)
  refine aCalls_mono (h s v) ?_
  rintro y s' v' ⟨rfl, rfl, rfl⟩
  exact .inl ⟨hne, rfl, rfl, rfl⟩
 have eO := rowCs_get hmm
 have hm1 : m.toNat + 1 ≤ c.owners.length := by omega
 have hm2 : m.toNat + 1 ≤ c.lockq.length := by omega
 refine aCalls_go Tryz.func250 rfl (by decide) Tryz.ntmps250 (by simp) false ?_
 have hres : Tryz.f250.results = #[.cell 6 30, .tmp 7, .tmp 8] := rfl
 repeat' (first|(with_reducible first|refine bt ?_|refine bf ?_|(first|refine bc ?_ ?_|refine gc ?_ ?_|refine pc ?_ ?_)<;>intro _|(refine dr P250 mixed ?_ ?_ ?_;kernel_rfl;kernel_rfl)|refine callOwn (own_c hb) (fun v' J xO xC xL xW xD cL cW cD dO dC dL dW dD qO qC qL qW qD ho => ?_))|simp -implicitDefEqProofs(maxSteps:=2000000)(disch:=first|assumption|omega)[*, ])
 replace ho := ho.lay
 have hgW := ho.gW
 obtain ⟨e1, jO, lO, nO⟩ := ho.owners.obj (by omega)
 obtain ⟨e2, jL, lL, nL⟩ := ho.lockq.obj (by omega)
 have w1 := ho.w.setO (by omega) (l := c.owners.set m.toNat (-1)) (by simp)
 have jO1 := (w1.owners.obj (by show (c.owners.set _ _).length ≠ 0; rw [List.length_set]; omega)).2.1
 have jL1 := (w1.lockq.obj (by show c.lockq.length ≠ 0; omega)).2.1
 obtain ⟨x, gx1, gx2⟩ := ho.gL.at_ m.toNat hml
 have hxc := gx2.gro.cells
 have hxl := gx2.gro.len (P := Tryz.prog) (t := 23) (by kernel_rfl)
 have hxi := fun i => gx2.ix (P := Tryz.prog) (t := 23) (κ := .i64) (i := i)
 have hgL := ho.gL.weak
 have w2 := ho.w.setO (by omega) (l := c.owners.set m.toNat (nth (nth c.lockq m.toNat) 0)) (by simp)
 have hlen1 : m.toNat + 1 ≤ (rowCs (c.owners.set m.toNat (-1))).length := by rw [rowCs_len, List.length_set]; simp; omega
 have eO1 := rowCs_get (l := c.owners.set m.toNat (-1)) (i := m.toNat) (by simp; omega)
 rw [nth_set hmm] at eO1
 simp only at jO1 jL1
 subst e1 e2
 clear ho
 by_cases hg : 0 < (nth c.lockq m.toNat).length
 ·have hu : unlockC c m t = ({ c with owners := c.owners.set m.toNat (nth (nth c.lockq m.toNat) 0), lockq := c.lockq.set m.toNat ((nth c.lockq m.toNat).drop 1) }, nth (nth c.lockq m.toNat) 0, 0) := by
   unfold unlockC at'
   rw [if_neg (by simp [hne]), if_pos hg]
  have hi0 := ix_in (l := nth c.lockq m.toNat) (i := 0) (by omega) (by omega)
  obtain ⟨y, hy1, gy⟩ := gx2.slice (P := Tryz.prog) (t := 23) (a := 1) (by simp) (by omega) (by omega)
  have hyc := gy.gro.cells
  simp only [show (1 : Int).toNat = 1 from rfl, List.drop_one] at gy hu
  have w3 := w2.setL (show c.lockq.length ≠ 0 by omega) (L := c.lockq.set m.toNat (nth c.lockq m.toNat).tail) (cs := cL.set m.toNat y) (by simp) (hgL.put gy.gro.weak (gy.gro.under 0))
  have jL2 := (w2.lockq.obj (by show c.lockq.length ≠ 0; omega)).2.1
  have jO3 := (w3.owners.obj (by show (c.owners.set _ _).length ≠ 0; rw [List.length_set]; omega)).2.1
  have eO3 := rowCs_get (l := c.owners.set m.toNat (nth (nth c.lockq m.toNat) 0)) (i := m.toNat) (by simp; omega)
  rw [nth_set hmm] at eO3
  simp only at jL2 jO3
  repeat' (first|(with_reducible first|refine bt ?_|refine bf ?_|(first|refine bc ?_ ?_|refine gc ?_ ?_|refine pc ?_ ?_)<;>intro _|(refine dr P250 mixed ?_ ?_ ?_;kernel_rfl;kernel_rfl))|simp -implicitDefEqProofs(maxSteps:=2000000)(disch:=first|assumption|omega)[*, ])
  exact .inr ⟨hne, _, _, _, _, xC, _, xW, xD, _, cW, cD, dO, dC, dL, dW, dD, rfl, by rw [hu], by rw [hu]; exact w3.box _ _, hgW⟩
 ·have hu : unlockC c m t = ({ c with owners := c.owners.set m.toNat (-1) }, -1, 0) := by
   unfold unlockC at'
   rw [if_neg (by simp [hne]), if_neg hg]
  repeat' (first|(with_reducible first|refine bt ?_|refine bf ?_|(first|refine bc ?_ ?_|refine gc ?_ ?_|refine pc ?_ ?_)<;>intro _|(refine dr P250 mixed ?_ ?_ ?_;kernel_rfl;kernel_rfl))|simp -implicitDefEqProofs(maxSteps:=2000000)(disch:=first|assumption|omega)[*, ])
  exact .inr ⟨hne, _, _, _, _, xC, _, xW, xD, cL, cW, cD, dO, dC, dL, dW, dD, rfl, by rw [hu], by rw [hu]; exact w1.box _ _, hgW⟩
theorem unlock_p {c : Cor} {m t : Int} (hb : CorB c) (h0 : 0 ≤ m) (h1 : m < c.owners.length) (h2 : m < c.lockq.length) : PureC Tryz.prog 250 [.agg [.int .i64 c.now, row c.threads, row c.owners, row c.counts, row c.bufs, row c.lockq, row c.waitq, row c.downq, row c.sendq, row c.recvq], .int .i64 m, .int .i64 t] (.tup [.agg (unlockC c m t).1.lv, .int .i64 (unlockC c m t).2.1, .int .i64 (unlockC c m t).2.2]) := by
 intro s v
 refine aCalls_deep (aCalls_mono (unlock_o hb h0 h1 h2) ?_)
 rintro y s' v' (⟨hne, rfl, rfl, rfl⟩ | ⟨he, J, a, b, xO, xC, xL, xW, xD, cL, cW, cD, dO, dC, dL, dW, dD, rfl, rfl, hw, hg⟩)
 ·have hu : unlockC c m t = (c, -1, 10) := by unfold unlockC at'; rw [if_pos hne]
  rw [hu]
  exact ⟨[], _, by simp, .keep _ (by simp [LV.under, undersB]), rfl, rfl, List.prefix_refl _⟩
 ·have hu : (unlockC c m t).2.2 = 0 := by unfold unlockC at'; rw [if_neg (by simp [he])]; split <;> rfl
  rw [hu]
  exact ⟨_, _, rfl, .tup _ _ (.cons _ _ _ _ hw.deep (.cons _ _ _ _ (.keep _ rfl) (.cons _ _ _ _ (.keep _ rfl) .nil))), rfl, rfl, hg.pre⟩
end Go.Hb
