/-
  A layer for reasoning about the program's calls, and contracts of its functions (NJ). CONDITIONS: none; each theorem bears its own.
-/
import Derived.Test.YtdnbmcnckojglaaGreatNG
import Derived.Test.YtdnbmcnckojglaaGreatL9
set_option linter.unusedVariables false
set_option linter.unusedSimpArgs false
section
namespace Go.Hb
open Go Go.Proofs Go.RowKit
set_option maxRecDepth 100000
set_option maxHeartbeats 800000
attribute [-simp] aC aL aOper aThen aInBlock aIf aPlan aAppend aLen aIndexAddr aSlice aCells aBounds lBr aq initT aev aAppendOwn aAppendNil aAppendNew aAppendRef LV.cells LV.cellsOk getElem?_pos getElem?_neg
theorem lists_p {L : List (List Int)} (hb : L.length ≤ 10000000 ∧ ∀ l ∈ L, l.length ≤ 10000000) : PureC Tryz.prog 51 [row L] (row L) := fun s v => by
 refine aCalls_deep (aCalls_mono (lists_o hb.1 hb.2) ?_)
 rintro x s' v' ⟨J, d, cs, rfl, hR, hd, hd2, hG⟩
 exact ⟨J, row L, rfl, hR.deep (by omega) hG.weak.deep, rfl, rfl, hG.pre⟩
theorem clone11_o {c : Cor} (hb : CorB c) (hthr : ∀ t ∈ c.threads, ThrB t) (h0 : c.threads ≠ []) {s : List AObj} {v : List Nat} : aCalls Tryz.prog 27 [.agg [.int .i64 c.now, row c.threads, row c.owners, row c.counts, row c.bufs, row c.lockq, row c.waitq, row c.downq, row c.sendq, row c.recvq]] s v (CloR c s v) := by
 have hl := hb.threads
 have hb1 := lists_p hb.bufs.big
 have hb2 := lists_p hb.lockq.big
 have hb3 := lists_p hb.waitq.big
 have hb4 := lists_p hb.downq.big
 have hb5 := lists_p hb.sendq.big
 have hb6 := lists_p hb.recvq.big
 refine aCalls_go Tryz.func27 rfl (by decide) Tryz.ntmps27 (by simp) true ?_
 have hres : Tryz.f27.results = #[.cell 2 30] := rfl
 repeat' (first|(with_reducible first|refine bt ?_|refine bf ?_|(first|refine bc ?_ ?_|refine gc ?_ ?_|refine pc ?_ ?_)<;>intro _)|simp -implicitDefEqProofs(maxSteps:=2000000)(disch:=first|assumption|omega)[*, ])
 refine aW_for (β := List Nat × List AObj × Nat × LV) true c.threads.length (fun k q => v <+: q.1 ∧ RowR (s ++ (AObj.cells [.int .i64 c.now, row c.threads, row c.owners, row c.counts, row c.bufs, row c.lockq, row c.waitq, row c.downq, row c.sendq, row c.recvq] :: AObj.cells [.int .i64 0, .nils, .nils, .nils, .nils, .nils, .nils, .nils, .nils, .nils] :: q.2.1)) 5 k (rowCs (c.threads.take k)) q.2.2.2 (s.length + (q.2.2.1 + 2)) ∧ (k ≠ 0 → q.2.2.1 < q.2.1.length)) (fun k q => [(3, q.2.2.2), (4, .int .i64 k), (7, .any), (8, .any), (9, .any), (10, .any), (11, .any), (14, .any), (15, .any), (16, .any), (17, .any), (18, .any), (19, .any), (20, .any), (21, .any), (22, .any), (12, .any), (13, .any)]) (fun _ q => s ++ (AObj.cells [.int .i64 c.now, row c.threads, row c.owners, row c.counts, row c.bufs, row c.lockq, row c.waitq, row c.downq, row c.sendq, row c.recvq] :: AObj.cells [.int .i64 0, .nils, .nils, .nils, .nils, .nils, .nils, .nils, .nils, .nils] :: q.2.1)) (fun _ q => q.1) ?_ ?_
 ·exact ⟨(v, [], 0, .nils), ⟨List.prefix_refl _, .inl ⟨rfl, rfl, rfl⟩, by simp⟩, by (refine Fits.of ?_ (Off.refl _ _); simp [upd_apply, upds_cons]), rfl, rfl⟩
 rintro k ⟨v1, J, d, x⟩ hk ⟨hv1, hR, hd⟩
 simp only at hv1 hR hd
 have hxc := hR.cells
 by_cases hlt : k < c.threads.length
 ·have hx := ix_in (l := c.threads) (i := (k : Int)) (by omega) (by omega)
  rw [Int.toNat_natCast] at hx
  have htk : rowCs (c.threads.take (k + 1)) = rowCs (c.threads.take k) ++ (nth c.threads k).lv := by rw [take_succ_nth hlt]; simp [rowCs, Enc.enc]
  have hcl := rclone_p (st := (nth c.threads k).state) (on := (nth c.threads k).on) (fr := (nth c.threads k).frames) (sk := (nth c.threads k).stack) (co := (nth c.threads k).code) (hthr _ (nth_mem hlt))
  obtain ⟨J2, ha, hR2, hJ2⟩ := thr_step (P := Tryz.prog) (t := 28) (t2 := 28) (by_ := 72) (by kernel_rfl) (by omega) hR hd (ds := (nth c.threads k).lv) rfl (by omega)
  have ha' := ha (.ref 5 (s.length + (J.length + 2)) 0 1 true) (by simp [aCells, Thr.lv])
  clear ha
  simp only [Thr.lv] at ha'
  have hlt' : (k : Int) < c.threads.length := by omega
  repeat' (first|(with_reducible first|refine bt ?_|refine bf ?_|(first|refine bc ?_ ?_|refine gc ?_ ?_|refine pc ?_ ?_)<;>intro _|refine callC hcl (fun v2 hv2 => ?_))|simp -implicitDefEqProofs(maxSteps:=2000000)(disch:=first|assumption|omega)[*, ])
  rw [← htk] at hR2
  exact ⟨hlt, (v2, J2, J.length + 1, _), ⟨hv1.trans hv2, hR2, fun _ => by show J.length + 1 < J2.length; omega⟩, by (refine Fits.of ?_ ?_; rotate_left; (repeat (first | with_reducible exact Off.refl _ _ | refine Off.upd rfl ?_ | refine Off.updO rfl ?_ | refine Off.upds rfl ?_)); simp [upd_apply, upds_cons]), by simp, rfl⟩
 ·have : k = c.threads.length := by omega
  subst this
  rw [List.take_of_length_le (Nat.le_refl _)] at hR
  obtain ⟨xO, JO, haO, hxO, hO⟩ := own_nil_r (P := Tryz.prog) (t := 23) (t2 := 23) (by kernel_rfl) (l := c.owners) (by have := hb.owners; omega) s J (AObj.cells [.int .i64 c.now, x, row c.owners, row c.counts, row c.bufs, row c.lockq, row c.waitq, row c.downq, row c.sendq, row c.recvq]) (AObj.cells [.int .i64 0, .nils, .nils, .nils, .nils, .nils, .nils, .nils, .nils, .nils])
  obtain ⟨xC, JC, haC, hxC, hC⟩ := own_nil_r (P := Tryz.prog) (t := 23) (t2 := 23) (by kernel_rfl) (l := c.counts) (by have := hb.counts; omega) s (J ++ JO) (AObj.cells [.int .i64 c.now, x, xO, row c.counts, row c.bufs, row c.lockq, row c.waitq, row c.downq, row c.sendq, row c.recvq]) (AObj.cells [.int .i64 0, .nils, .nils, .nils, .nils, .nils, .nils, .nils, .nils, .nils])
  simp only [List.append_assoc] at haC
  have hn0 : c.threads.length ≠ 0 := fun e => h0 (List.length_eq_zero_iff.1 e)
  have hd' := hd hn0
  obtain ⟨_, hrx, rfl, hJ, _⟩ := hR.resolve_left fun h => hn0 h.1
  rw [layB_get] at hJ
  repeat' (first|(with_reducible first|refine bt ?_|refine bf ?_|(first|refine bc ?_ ?_|refine gc ?_ ?_|refine pc ?_ ?_)<;>intro _|refine callC hb1 (fun v2 hv2 => ?_)|refine callC hb2 (fun v3 hv3 => ?_)|refine callC hb3 (fun v4 hv4 => ?_)|refine callC hb4 (fun v5 hv5 => ?_)|refine callC hb5 (fun v6 hv6 => ?_)|refine callC hb6 (fun v7 hv7 => ?_))|simp -implicitDefEqProofs(maxSteps:=2000000)(disch:=first|assumption|omega)[*, ])
  refine ⟨_ :: _ :: (J ++ (JO ++ JC)), d + 2, xO, xC, J.length + 2, (J ++ JO).length + 2, rfl, ?_, hO _ _ JC, ?_, by omega, ⟨by simp; omega, fun h0 => by have hl := (hO (AObj.cells [.int .i64 0, .nils, .nils, .nils, .nils, .nils, .nils, .nils, .nils, .nils]) (AObj.cells [.int .i64 0, .nils, .nils, .nils, .nils, .nils, .nils, .nils, .nils, .nils]) []).lt h0; simp at hl; rw [List.length_append]; omega⟩, by first | exact hv1 | exact hv1.trans (hv2.trans (hv3.trans (hv4.trans (hv5.trans (hv6.trans hv7))))), rfl⟩
  ·show (J ++ (JO ++ JC))[d]? = _
   rw [List.getElem?_append_left hd']; exact hJ
  ·have := hC (AObj.cells [.int .i64 c.now, .ref 5 (s.length + (d + 2)) 0 c.threads.length false, xO, xC, row c.bufs, row c.lockq, row c.waitq, row c.downq, row c.sendq, row c.recvq]) (AObj.cells [.int .i64 c.now, .ref 5 (s.length + (d + 2)) 0 c.threads.length false, xO, xC, row c.bufs, row c.lockq, row c.waitq, row c.downq, row c.sendq, row c.recvq]) []
   simpa using this
end Go.Hb
end

section
namespace Go.Hb
open Go Go.Proofs Go.RowKit
set_option maxRecDepth 100000
set_option maxHeartbeats 800000
attribute [-simp] aC aL aOper aThen aInBlock aIf aPlan aAppend aLen aIndexAddr aSlice aCells aBounds lBr aq initT aev aAppendOwn aAppendNil aAppendNew aAppendRef LV.cells LV.cellsOk getElem?_pos getElem?_neg
theorem make17_p {p : Prog} {l : List Int} {e : Int} (h : OkProg p) (hl : OkRow I64 l) (he : I64 e) : PureC Tryz.prog 7 [.agg p.lv, row l, .int .i64 e] (.agg (.int .i64 3 :: .int .i64 (around e 1000) :: ((good p).lv ++ (playC (good p) (coreNew (good p)) (l.take 80)).1.lv))) := by
 have hg := good_ok h
 have hp := mayP_iff (good_may p)
 generalize good p = g at *
 have hll : l.length ≤ 9223372036854775807 := by have := hl.2; omega
 have hnw := new11_p hp
 have hpl := play_p hp (coreNew_inv hp) (l := l) (most := 80) hll hl.1 (by omega) (by omega)
 rw [show (80 : Int).toNat = 80 from rfl] at hpl
 have har := around_p (n := e) (m := 1000) he (by omega)
 generalize (playC g (coreNew g) (l.take 80)).2 = ev at *
 generalize (playC g (coreNew g) (l.take 80)).1 = y at *
 generalize coreNew g = n at *
 refine .of fun s v => ?_
 simp only [Prog.lv, Cor.lv] at hg hnw hpl ⊢
 refine aCalls_go Tryz.func7 rfl (by decide) Tryz.ntmps7 (by simp) false ?_
 have hres : Tryz.f7.results = #[.cell 6 32] := rfl
 repeat' (first|(with_reducible first|refine bt ?_|refine bf ?_|(first|refine bc ?_ ?_|refine gc ?_ ?_|refine pc ?_ ?_)<;>intro _|(refine dr P7 mixed ?_ ?_ ?_;kernel_rfl;kernel_rfl)|refine And.intro ?_ ?_|refine callC hg (fun v1 hv1 => ?_)|refine callC hnw (fun v2 hv2 => ?_)|refine callC hpl (fun v3 hv3 => ?_)|refine callE har ?_)|simp -implicitDefEqProofs(maxSteps:=2000000)(disch:=first|assumption|omega)[*, ])
 all_goals exact Ends.eqat rfl (by simp) (hv1.trans (hv2.trans hv3))
end Go.Hb
end

