/-
  A layer for reasoning about the program's calls, and contracts of its functions (VI). CONDITIONS: none; each theorem bears its own.
-/
import Derived.Test.YtdnbmcnckojglaaGreatNJ
import Derived.Test.YtdnbmcnckojglaaGreatL9
set_option linter.unusedVariables false
set_option linter.unusedSimpArgs false
section
namespace Go.Hb
open Go Go.Proofs Go.RowKit
set_option maxRecDepth 100000
set_option maxHeartbeats 800000
attribute [-simp] aC aL aOper aThen aInBlock aIf aPlan aAppend aLen aIndexAddr aSlice aCells aBounds lBr aq initT aev aAppendOwn aAppendNil aAppendNew aAppendRef LV.cells LV.cellsOk getElem?_pos getElem?_neg
@[simp] def P6 : Nat → Plan
 | 17 => (.qs [0, 1, 2, 3, 4, 5, 6, 7, 8, 9, 10] (.w 11 [1] (.qs [12, 13] (.w 14 [] .nil))))
 | 23 => (.qs [0, 1, 2, 3, 4, 5, 7] (.w 6 [1] (.qs [8] (.w 9 [] .nil))))
 | 26 => (.qs [0, 1, 2, 3, 4, 5, 7] (.w 6 [1] (.qs [8] (.w 9 [] .nil))))
 | _ => .nil
set_option maxHeartbeats 8000000 in
theorem turnB_p {ver ep : Int} {p : Prog} {c : Cor} {what at_ n w : Int} {k : Nat} (hs : SizeC c k) (hk : k ≤ 2) (h1 : I64 what) (h2 : I64 at_) (hwe : around what 16 = w) (hw : w = 0 ∨ w = 1 ∨ w = 2 ∨ w = 3 ∨ w = 6 ∨ w = 7 ∨ w = 14) :
  PureC Tryz.prog 6 [.agg [.int .i64 ver, .int .i64 ep, row p.funcs, .int .i64 p.mutexes, row p.conds, row p.semas, row p.chans, row p.choices, .int .i64 p.threads, .int .i64 c.now, row c.threads, row c.owners, row c.counts, row c.bufs, row c.lockq, row c.waitq, row c.downq, row c.sendq, row c.recvq], .int .i64 what, .int .i64 at_, .int .i64 n] (.agg (turnC ⟨ver, ep, p, c⟩ what at_ n).lv) := by
 have hb := hs.corB hk
 have hthr := hs.thrB hk
 have hn := hs.thr
 have ho := hs.owners
 have hcn := hs.counts
 have hne : c.threads ≠ [] := fun e => by rw [e] at hn; simp at hn
 have a16 := around_p (n := what) (m := 16) h1 (by omega)
 unfold turnC
 rw [hwe] at a16
 rw [hwe]
 clear hwe
 have hat := around_in (n := at_) (m := (c.threads.length : Int)) (by omega)
 have har := around_p (n := at_) (m := (c.threads.length : Int)) h2 (by omega)
 have htt : ∀ f, thrAt c at_ f = { c with threads := c.threads.set (around at_ (c.threads.length : Int)).toNat (f (nth c.threads (around at_ (c.threads.length : Int)).toNat)) } := fun _ => rfl
 generalize around at_ (c.threads.length : Int) = j at *
 obtain ⟨i, rfl⟩ : ∃ i : Nat, j = i := ⟨j.toNat, by omega⟩
 rw [Int.toNat_natCast] at htt
 have hi : i < c.threads.length := by omega
 intro s v
 refine aCalls_deep ?_
 refine aCalls_go Tryz.func6 rfl (by decide) Tryz.ntmps6 (by simp) true ?_
 have hres : Tryz.f6.results = #[.cell 8 32] := rfl
 repeat' (first|(with_reducible first|refine bt ?_|refine bf ?_|(first|refine bc ?_ ?_|refine gc ?_ ?_|refine pc ?_ ?_)<;>intro _|(refine dw P6 mixed ?_ ?_ ?_;kernel_rfl;kernel_rfl)|refine And.intro ?_ ?_)|simp -implicitDefEqProofs(maxSteps:=2000000)(disch:=first|assumption|omega)[*, ])
 refine aCalls_mono (clone11_o hb hthr hne) ?_
 intro x1 s1 v1 hc1
 obtain ⟨J, d, xO, xC, dO, dC, rfl, hJ, hO, hC, nO, nC, hv1, rfl⟩ := hc1.two
 clear hc1
 have hd := (List.getElem?_eq_some_iff.1 hJ).1
 have hJX : ∀ Y, (J ++ Y)[d]? = some (.cells (rowCs c.threads)) := fun Y => by rw [List.getElem?_append_left hd]; exact hJ
 have hJs : ∀ Y o, (J ++ Y).set d o = J.set d o ++ Y := fun Y o => by rw [List.set_append_left _ _ hd]
 have hJl : ∀ X x, (J ++ x :: X)[J.length]? = some x := fun X x => by rw [List.getElem?_append_right (by simp)]; simp
 have hJm : ∀ X x o, (J.set d o ++ x :: X)[J.length]? = some x := fun X x o => by rw [List.getElem?_append_right (by simp)]; simp
 have h5 : (rowCs c.threads).length = c.threads.length * 5 := by rw [rowCs_len]; rfl
 have hk1 : i * 5 + 1 ≤ (rowCs c.threads).length := by omega
 have hk2 : i * 5 + 1 + 1 ≤ (rowCs c.threads).length := by omega
 clear h5
 have hki : (i : Int) < c.threads.length := by omega
 have hkeep : ∀ Y, ∀ e, e ≠ d → e < J.length → (J ++ Y)[e]? = J[e]? := fun Y e _ he => List.getElem?_append_left he
 have hkeep2 : ∀ Y o, ∀ e, e ≠ d → e < J.length → (J.set d o ++ Y)[e]? = J[e]? := fun Y o e h he => by rw [List.getElem?_append_left (by simpa using he), List.getElem?_set_ne (Ne.symm h)]
 have hT0 : ∀ A B Y, DeepV (s ++ (A :: B :: (J ++ Y))) s.length (.ref 5 (s.length + (d + 2)) 0 c.threads.length false) (row c.threads) := fun A B Y => DeepV.ref_row (by omega) (by rw [layB_get]; exact hJX Y) (rowCs_ne (by decide) hne)
 have hO0 : ∀ A B Y, DeepV (s ++ (A :: B :: (J ++ Y))) s.length xO (row c.owners) := fun A B Y => (hO.oth2 (hkeep Y) (fun _ => nO)).deep0 (by omega)
 have hC0 : ∀ A B Y, DeepV (s ++ (A :: B :: (J ++ Y))) s.length xC (row c.counts) := fun A B Y => (hC.oth2 (hkeep Y) (fun _ => nC.1)).deep0 (by omega)
 have hO1 : ∀ A B Y o, DeepV (s ++ (A :: B :: (J.set d o ++ Y))) s.length xO (row c.owners) := fun A B Y o => (hO.oth2 (hkeep2 Y o) (fun _ => nO)).deep0 (by omega)
 have hC1 : ∀ A B Y o, DeepV (s ++ (A :: B :: (J.set d o ++ Y))) s.length xC (row c.counts) := fun A B Y o => (hC.oth2 (hkeep2 Y o) (fun _ => nC.1)).deep0 (by omega)
 have hT1 : ∀ A B Y (l : List Thr), l.length = c.threads.length → DeepV (s ++ (A :: B :: (J.set d (.cells (rowCs l)) ++ Y))) s.length (.ref 5 (s.length + (d + 2)) 0 c.threads.length false) (row l) := fun A B Y l hl => by
  have := DeepV.ref_row (S := s ++ (A :: B :: (J.set d (.cells (rowCs l)) ++ Y))) (n := s.length) (id := s.length + (d + 2)) (fl := false) (l := l) (by omega) (by rw [layB_get, List.getElem?_append_left (by simpa using hd), List.getElem?_set_self hd]) (rowCs_ne (by decide) (fun e => by rw [e] at hl; simp at hl; omega))
  rw [hl] at this; exact this
 rcases hw with rfl | rfl | rfl | rfl | rfl | rfl | rfl
 ·repeat' (first|(with_reducible first|refine bt ?_|refine bf ?_|(first|refine bc ?_ ?_|refine gc ?_ ?_|refine pc ?_ ?_)<;>intro _|(refine dw P6 mixed ?_ ?_ ?_;kernel_rfl;kernel_rfl)|refine And.intro ?_ ?_|refine callE a16 ?_|refine callE har ?_)|simp -implicitDefEqProofs(maxSteps:=2000000)(disch:=first|assumption|omega)[*, ])
  all_goals exact img_deep (hT0 _ _ _) (hO0 _ _ _) (hC0 _ _ _) (rowD _) (rowD _) (rowD _) (rowD _) (rowD _) (rowD _)
 ·repeat' (first|(with_reducible first|refine bt ?_|refine bf ?_|(first|refine bc ?_ ?_|refine gc ?_ ?_|refine pc ?_ ?_)<;>intro _|(refine dw P6 mixed ?_ ?_ ?_;kernel_rfl;kernel_rfl)|refine And.intro ?_ ?_|refine callE a16 ?_|refine callE har ?_)|simp -implicitDefEqProofs(maxSteps:=2000000)(disch:=first|assumption|omega)[*, ])
  all_goals exact img_deep (c := { c with now := n }) (hT0 _ _ _) (hO0 _ _ _) (hC0 _ _ _) (rowD _) (rowD _) (rowD _) (rowD _) (rowD _) (rowD _)
 ·repeat' (first|(with_reducible first|refine bt ?_|refine bf ?_|(first|refine bc ?_ ?_|refine gc ?_ ?_|refine pc ?_ ?_)<;>intro _|(refine dw P6 mixed ?_ ?_ ?_;kernel_rfl;kernel_rfl)|refine And.intro ?_ ?_|refine callE a16 ?_|refine callE har ?_)|simp -implicitDefEqProofs(maxSteps:=2000000)(disch:=first|assumption|omega)[*, ])
  all_goals
   rw [rowCs_st n c.threads hi]
   exact img_deep (c := thrAt c at_ fun t => { t with state := n }) (by rw [htt]; exact hT1 _ _ _ _ (by simp)) (hO1 _ _ _ _) (hC1 _ _ _ _) (rowD _) (rowD _) (rowD _) (rowD _) (rowD _) (rowD _)
 ·repeat' (first|(with_reducible first|refine bt ?_|refine bf ?_|(first|refine bc ?_ ?_|refine gc ?_ ?_|refine pc ?_ ?_)<;>intro _|(refine dw P6 mixed ?_ ?_ ?_;kernel_rfl;kernel_rfl)|refine And.intro ?_ ?_|refine callE a16 ?_|refine callE har ?_)|simp -implicitDefEqProofs(maxSteps:=2000000)(disch:=first|assumption|omega)[*, ])
  all_goals
   rw [rowCs_on n c.threads hi]
   exact img_deep (c := thrAt c at_ fun t => { t with on := n }) (by rw [htt]; exact hT1 _ _ _ _ (by simp)) (hO1 _ _ _ _) (hC1 _ _ _ _) (rowD _) (rowD _) (rowD _) (rowD _) (rowD _) (rowD _)
 ·rcases hO with ⟨e0, e1, rfl⟩ | ⟨e0, q2, rfl, q4, q5⟩
  ·have e2 : ∀ m, c.owners.set m n = c.owners := fun m => List.set_eq_of_length_le (by omega)
   have e0' : ¬ (0 : Int) < c.owners.length := by omega
   repeat' (first|(with_reducible first|refine bt ?_|refine bf ?_|(first|refine bc ?_ ?_|refine gc ?_ ?_|refine pc ?_ ?_)<;>intro _|(refine dw P6 mixed ?_ ?_ ?_;kernel_rfl;kernel_rfl)|refine And.intro ?_ ?_|refine callE a16 ?_|refine callE har ?_)|simp -implicitDefEqProofs(maxSteps:=2000000)(disch:=first|assumption|omega)[*, ])
   all_goals
    show DeepV _ _ _ (.agg (Img.lv ⟨_, _, _, { c with owners := c.owners.set _ n }⟩))
    rw [e2]
    exact img_deep (hT0 _ _ _) (hO0 _ _ _) (hC0 _ _ _) (rowD _) (rowD _) (rowD _) (rowD _) (rowD _) (rowD _)
  ·have am := around_in (n := at_) (m := (c.owners.length : Int)) (by omega)
   have a2 := around_p (n := at_) (m := (c.owners.length : Int)) h2 (by omega)
   have e0' : (0 : Int) < c.owners.length := by omega
   have e0'' : 0 < c.owners.length := by omega
   have htw : turnW c 6 at_ n = { c with owners := c.owners.set (around at_ (c.owners.length : Int)).toNat n } := rfl
   rw [htw]
   clear htw
   generalize around at_ (c.owners.length : Int) = m at *
   obtain ⟨m, rfl⟩ : ∃ i : Nat, m = i := ⟨m.toNat, by omega⟩
   rw [Int.toNat_natCast]
   have hm : m < c.owners.length := by omega
   rw [layB_get] at q4
   have hd2 := (List.getElem?_eq_some_iff.1 q4).1
   have g1 : ∀ Y, (J ++ Y)[dO]? = some (.cells (rowCs c.owners)) := fun Y => by rw [List.getElem?_append_left hd2]; exact q4
   have g2 : ∀ Y o, (J ++ Y).set dO o = J.set dO o ++ Y := fun Y o => by rw [List.set_append_left _ _ hd2]
   have g3 : ∀ X x o, (J.set dO o ++ x :: X)[J.length]? = some x := fun X x o => by rw [List.getElem?_append_right (by simp)]; simp
   have g4 : m + 1 ≤ (rowCs c.owners).length := by rw [q5]; omega
   have g5 : m ≤ (rowCs c.owners).length := by omega
   have g6 : (m : Int) < c.owners.length := by omega
   have g7 : m + 1 ≤ c.owners.length := by omega
   have kp : ∀ Y o, ∀ e, e ≠ dO → e < J.length → (J.set dO o ++ Y)[e]? = J[e]? := fun Y o e h he => by rw [List.getElem?_append_left (by simpa using he), List.getElem?_set_ne (Ne.symm h)]
   have hT2 : ∀ A B Y o, DeepV (s ++ (A :: B :: (J.set dO o ++ Y))) s.length (.ref 5 (s.length + (d + 2)) 0 c.threads.length false) (row c.threads) := fun A B Y o => DeepV.ref_row (by omega) (by rw [layB_get, kp Y o d (by have := nO; have := nC; omega) hd]; exact hJ) (rowCs_ne (by decide) hne)
   have hX2 : ∀ A B Y (l : List Int), l.length = c.owners.length → DeepV (s ++ (A :: B :: (J.set dO (.cells (rowCs l)) ++ Y))) s.length (.ref 1 (s.length + (dO + 2)) 0 c.owners.length false) (row l) := fun A B Y l hl => by
    have := DeepV.ref_row (S := s ++ (A :: B :: (J.set dO (.cells (rowCs l)) ++ Y))) (n := s.length) (id := s.length + (dO + 2)) (fl := false) (l := l) (by omega) (by rw [layB_get, List.getElem?_append_left (by simpa using hd2), List.getElem?_set_self hd2]) (rowCs_ne (by decide) (fun e => by rw [e] at hl; simp at hl; omega))
    rw [hl] at this; exact this
   have hY2 : ∀ A B Y o, DeepV (s ++ (A :: B :: (J.set dO o ++ Y))) s.length xC (row c.counts) := fun A B Y o => (hC.oth2 (kp Y o) (fun _ => Ne.symm (nC.2 e0))).deep0 (by omega)
   clear hJ hJX hJs hJm hT0 hO0 hC0 hO1 hC1 hT1 hkeep hkeep2
   repeat' (first|(with_reducible first|refine bt ?_|refine bf ?_|(first|refine bc ?_ ?_|refine gc ?_ ?_|refine pc ?_ ?_)<;>intro _|(refine dw P6 mixed ?_ ?_ ?_;kernel_rfl;kernel_rfl)|refine And.intro ?_ ?_|refine callE a16 ?_|refine callE har ?_|refine callE a2 ?_)|simp -implicitDefEqProofs(maxSteps:=2000000)(disch:=first|assumption|omega)[*, ])
   all_goals
    rw [rowCs_set]
    exact img_deep (c := { c with owners := c.owners.set m n }) (hT2 _ _ _ _) (hX2 _ _ _ _ (by simp)) (hY2 _ _ _ _) (rowD _) (rowD _) (rowD _) (rowD _) (rowD _) (rowD _)
 ·rcases hC with ⟨e0, e1, rfl⟩ | ⟨e0, q2, rfl, q4, q5⟩
  ·have e2 : ∀ m, c.counts.set m n = c.counts := fun m => List.set_eq_of_length_le (by omega)
   have e0' : ¬ (0 : Int) < c.counts.length := by omega
   repeat' (first|(with_reducible first|refine bt ?_|refine bf ?_|(first|refine bc ?_ ?_|refine gc ?_ ?_|refine pc ?_ ?_)<;>intro _|(refine dw P6 mixed ?_ ?_ ?_;kernel_rfl;kernel_rfl)|refine And.intro ?_ ?_|refine callE a16 ?_|refine callE har ?_)|simp -implicitDefEqProofs(maxSteps:=2000000)(disch:=first|assumption|omega)[*, ])
   all_goals
    show DeepV _ _ _ (.agg (Img.lv ⟨_, _, _, { c with counts := c.counts.set _ n }⟩))
    rw [e2]
    exact img_deep (hT0 _ _ _) (hO0 _ _ _) (hC0 _ _ _) (rowD _) (rowD _) (rowD _) (rowD _) (rowD _) (rowD _)
  ·have am := around_in (n := at_) (m := (c.counts.length : Int)) (by omega)
   have a2 := around_p (n := at_) (m := (c.counts.length : Int)) h2 (by omega)
   have e0' : (0 : Int) < c.counts.length := by omega
   have e0'' : 0 < c.counts.length := by omega
   have htw : turnW c 7 at_ n = { c with counts := c.counts.set (around at_ (c.counts.length : Int)).toNat n } := rfl
   rw [htw]
   clear htw
   generalize around at_ (c.counts.length : Int) = m at *
   obtain ⟨m, rfl⟩ : ∃ i : Nat, m = i := ⟨m.toNat, by omega⟩
   rw [Int.toNat_natCast]
   have hm : m < c.counts.length := by omega
   rw [layB_get] at q4
   have hd2 := (List.getElem?_eq_some_iff.1 q4).1
   have g1 : ∀ Y, (J ++ Y)[dC]? = some (.cells (rowCs c.counts)) := fun Y => by rw [List.getElem?_append_left hd2]; exact q4
   have g2 : ∀ Y o, (J ++ Y).set dC o = J.set dC o ++ Y := fun Y o => by rw [List.set_append_left _ _ hd2]
   have g3 : ∀ X x o, (J.set dC o ++ x :: X)[J.length]? = some x := fun X x o => by rw [List.getElem?_append_right (by simp)]; simp
   have g4 : m + 1 ≤ (rowCs c.counts).length := by rw [q5]; omega
   have g5 : m ≤ (rowCs c.counts).length := by omega
   have g6 : (m : Int) < c.counts.length := by omega
   have g7 : m + 1 ≤ c.counts.length := by omega
   have kp : ∀ Y o, ∀ e, e ≠ dC → e < J.length → (J.set dC o ++ Y)[e]? = J[e]? := fun Y o e h he => by rw [List.getElem?_append_left (by simpa using he), List.getElem?_set_ne (Ne.symm h)]
   have hT2 : ∀ A B Y o, DeepV (s ++ (A :: B :: (J.set dC o ++ Y))) s.length (.ref 5 (s.length + (d + 2)) 0 c.threads.length false) (row c.threads) := fun A B Y o => DeepV.ref_row (by omega) (by rw [layB_get, kp Y o d (by have := nO; have := nC; omega) hd]; exact hJ) (rowCs_ne (by decide) hne)
   have hX2 : ∀ A B Y (l : List Int), l.length = c.counts.length → DeepV (s ++ (A :: B :: (J.set dC (.cells (rowCs l)) ++ Y))) s.length (.ref 1 (s.length + (dC + 2)) 0 c.counts.length false) (row l) := fun A B Y l hl => by
    have := DeepV.ref_row (S := s ++ (A :: B :: (J.set dC (.cells (rowCs l)) ++ Y))) (n := s.length) (id := s.length + (dC + 2)) (fl := false) (l := l) (by omega) (by rw [layB_get, List.getElem?_append_left (by simpa using hd2), List.getElem?_set_self hd2]) (rowCs_ne (by decide) (fun e => by rw [e] at hl; simp at hl; omega))
    rw [hl] at this; exact this
   have hY2 : ∀ A B Y o, DeepV (s ++ (A :: B :: (J.set dC o ++ Y))) s.length xO (row c.owners) := fun A B Y o => (hO.oth2 (kp Y o) (fun h0 => nC.2 h0)).deep0 (by omega)
   clear hJ hJX hJs hJm hT0 hO0 hC0 hO1 hC1 hT1 hkeep hkeep2
   repeat' (first|(with_reducible first|refine bt ?_|refine bf ?_|(first|refine bc ?_ ?_|refine gc ?_ ?_|refine pc ?_ ?_)<;>intro _|(refine dw P6 mixed ?_ ?_ ?_;kernel_rfl;kernel_rfl)|refine And.intro ?_ ?_|refine callE a16 ?_|refine callE har ?_|refine callE a2 ?_)|simp -implicitDefEqProofs(maxSteps:=2000000)(disch:=first|assumption|omega)[*, ])
   all_goals
    rw [rowCs_set]
    exact img_deep (c := { c with counts := c.counts.set m n }) (hT2 _ _ _ _) (hY2 _ _ _ _) (hX2 _ _ _ _ (by simp)) (rowD _) (rowD _) (rowD _) (rowD _) (rowD _) (rowD _)
 ·repeat' (first|(with_reducible first|refine bt ?_|refine bf ?_|(first|refine bc ?_ ?_|refine gc ?_ ?_|refine pc ?_ ?_)<;>intro _|(refine dw P6 mixed ?_ ?_ ?_;kernel_rfl;kernel_rfl)|refine And.intro ?_ ?_|refine callE a16 ?_|refine callE har ?_)|simp -implicitDefEqProofs(maxSteps:=2000000)(disch:=first|assumption|omega)[*, ])
  all_goals exact img_deep (hT0 _ _ _) (hO0 _ _ _) (hC0 _ _ _) (rowD _) (rowD _) (rowD _) (rowD _) (rowD _) (rowD _)
end Go.Hb
end

section
namespace Go.Hb
open Go Go.Proofs Go.RowKit
set_option maxRecDepth 100000
set_option maxHeartbeats 800000
attribute [-simp] aC aL aOper aThen aInBlock aIf aPlan aAppend aLen aIndexAddr aSlice aCells aBounds lBr aq initT aev aAppendOwn aAppendNil aAppendNew aAppendRef LV.cells LV.cellsOk getElem?_pos getElem?_neg
set_option maxHeartbeats 8000000 in
theorem turnE_p {ver ep : Int} {p : Prog} {c : Cor} {what at_ n : Int} {k : Nat} (hs : SizeC c k) (hk : k ≤ 2) (h1 : I64 what) (h2 : I64 at_) (hwe : around what 16 = 15) :
  PureC Tryz.prog 6 [.agg [.int .i64 ver, .int .i64 ep, row p.funcs, .int .i64 p.mutexes, row p.conds, row p.semas, row p.chans, row p.choices, .int .i64 p.threads, .int .i64 c.now, row c.threads, row c.owners, row c.counts, row c.bufs, row c.lockq, row c.waitq, row c.downq, row c.sendq, row c.recvq], .int .i64 what, .int .i64 at_, .int .i64 n] (.agg (turnC ⟨ver, ep, p, c⟩ what at_ n).lv) := by
 have hb := hs.corB hk
 have hthr := hs.thrB hk
 have hn := hs.thr
 have ho := hs.owners
 have hcn := hs.counts
 have hne : c.threads ≠ [] := fun e => by rw [e] at hn; simp at hn
 have a16 := around_p (n := what) (m := 16) h1 (by omega)
 unfold turnC
 rw [hwe] at a16
 rw [hwe]
 clear hwe
 have hat := around_in (n := at_) (m := (c.threads.length : Int)) (by omega)
 have har := around_p (n := at_) (m := (c.threads.length : Int)) h2 (by omega)
 have htt : ∀ f, thrAt c at_ f = { c with threads := c.threads.set (around at_ (c.threads.length : Int)).toNat (f (nth c.threads (around at_ (c.threads.length : Int)).toNat)) } := fun _ => rfl
 generalize around at_ (c.threads.length : Int) = j at *
 obtain ⟨i, rfl⟩ : ∃ i : Nat, j = i := ⟨j.toNat, by omega⟩
 rw [Int.toNat_natCast] at htt
 have hi : i < c.threads.length := by omega
 intro s v
 refine aCalls_deep ?_
 refine aCalls_go Tryz.func6 rfl (by decide) Tryz.ntmps6 (by simp) true ?_
 have hres : Tryz.f6.results = #[.cell 8 32] := rfl
 repeat' (first|(with_reducible first|refine bt ?_|refine bf ?_|(first|refine bc ?_ ?_|refine gc ?_ ?_|refine pc ?_ ?_)<;>intro _|(refine dw P6 mixed ?_ ?_ ?_;kernel_rfl;kernel_rfl)|refine And.intro ?_ ?_)|simp -implicitDefEqProofs(maxSteps:=2000000)(disch:=first|assumption|omega)[*, ])
 refine aCalls_mono (clone11_o hb hthr hne) ?_
 intro x1 s1 v1 hc1
 obtain ⟨J, d, xO, xC, dO, dC, rfl, hJ, hO, hC, nO, nC, hv1, rfl⟩ := hc1.two
 clear hc1
 have hd := (List.getElem?_eq_some_iff.1 hJ).1
 have hJX : ∀ Y, (J ++ Y)[d]? = some (.cells (rowCs c.threads)) := fun Y => by rw [List.getElem?_append_left hd]; exact hJ
 have hJl : ∀ X x, (J ++ x :: X)[J.length]? = some x := fun X x => by rw [List.getElem?_append_right (by simp)]; simp
 have hki : (i : Int) < c.threads.length := by omega
 have hkeep : ∀ Y, ∀ e, e ≠ d → e < J.length → (J ++ Y)[e]? = J[e]? := fun Y e _ he => List.getElem?_append_left he
 have hOS : ∀ A B Y, RowR (s ++ (A :: B :: (J ++ Y))) 1 c.owners.length (rowCs c.owners) xO (s.length + (dO + 2)) := fun A B Y => hO.oth2 (hkeep Y) (fun _ => nO)
 obtain ⟨J', l1, l2, ha⟩ : ∃ J' : List AObj, J'.length = J.length ∧ (∀ e, (c.owners.length ≠ 0 → e ≠ dO) → J'[e]? = J[e]?) ∧ ∀ A B Y r, aAppendOwn Tryz.prog 23 23 xO (.imm 1 1 [.int .i64 n] r) (s ++ (A :: B :: (J ++ Y))) = some (.ref 1 (s.length + (J.length + Y.length + 2)) 0 (c.owners.length + 1) false, s ++ (A :: B :: (J' ++ (Y ++ [.cells (rowCs c.owners ++ [.int .i64 n])])))) := by
  by_cases e0 : c.owners.length = 0
  ·refine ⟨J, rfl, fun _ _ => rfl, fun A B Y r => ?_⟩
   rw [own_app (by_ := 8) (by kernel_rfl) (by omega) (by omega) (hOS A B Y) rfl (by omega) r, if_pos e0]; simp
  ·refine ⟨J.set dO (.cells []), by simp, fun e he => List.getElem?_set_ne (Ne.symm (he e0)), fun A B Y r => ?_⟩
   have hl := hO.lt e0
   simp at hl
   rw [own_app (by_ := 8) (by kernel_rfl) (by omega) (by omega) (hOS A B Y) rfl (by omega) r, if_neg e0, layB_set, List.set_append_left _ _ (by omega)]; simp
 have ha2 := fun A B x r => ha A B [x] r
 simp only [List.length_cons, List.length_nil, List.cons_append, List.nil_append, Nat.zero_add] at ha2
 have g1 : ∀ X x, (J' ++ x :: X)[J.length]? = some x := fun X x => by rw [← l1, List.getElem?_append_right (by simp)]; simp
 have hT2 : ∀ A B Y, DeepV (s ++ (A :: B :: (J' ++ Y))) s.length (.ref 5 (s.length + (d + 2)) 0 c.threads.length false) (row c.threads) := fun A B Y => DeepV.ref_row (by omega) (by rw [layB_get, List.getElem?_append_left (by omega), l2 d (fun _ => Ne.symm nO)]; exact hJ) (rowCs_ne (by decide) hne)
 have hC2 : ∀ A B Y, DeepV (s ++ (A :: B :: (J' ++ Y))) s.length xC (row c.counts) := fun A B Y => RowR.deep0 (id := s.length + (dC + 2)) (hC.keep fun h0 => by
  have hl := hC.lt h0
  simp at hl
  rw [layB_get, layB_get, List.getElem?_append_left (by omega), l2 dC (fun h => Ne.symm (nC.2 h))]) (by omega)
 have hO2 : ∀ A B x, DeepV (s ++ (A :: B :: (J' ++ x :: [.cells (rowCs c.owners ++ [.int .i64 n])]))) s.length (.ref 1 (s.length + (J.length + 1 + 2)) 0 (c.owners.length + 1) false) (row (c.owners ++ [n])) := fun A B x => by
  have e : rowCs (c.owners ++ [n]) = rowCs c.owners ++ [.int .i64 n] := by simp [rowCs, Enc.enc]
  have := DeepV.ref_row (S := s ++ (A :: B :: (J' ++ x :: [.cells (rowCs c.owners ++ [.int .i64 n])]))) (n := s.length) (id := s.length + (J.length + 1 + 2)) (fl := false) (l := c.owners ++ [n]) (by omega) (by rw [layB_get, List.getElem?_append_right (by omega), l1, e]; simp) (by rw [e]; simp)
  rw [List.length_append] at this
  exact this
 have htw : turnW c 15 at_ n = { c with owners := c.owners ++ [n] } := rfl
 rw [htw]
 have hOc := hO.cells
 clear htw hJ hkeep ha l2 hOS
 repeat' (first|(with_reducible first|refine bt ?_|refine bf ?_|(first|refine bc ?_ ?_|refine gc ?_ ?_|refine pc ?_ ?_)<;>intro _|(refine dw P6 mixed ?_ ?_ ?_;kernel_rfl;kernel_rfl)|refine And.intro ?_ ?_|refine callE a16 ?_|refine callE har ?_)|simp -implicitDefEqProofs(maxSteps:=2000000)(disch:=first|assumption|omega)[*, ])
 all_goals exact img_deep (c := { c with owners := c.owners ++ [n] }) (hT2 _ _ _) (hO2 _ _ _) (hC2 _ _ _) (rowD _) (rowD _) (rowD _) (rowD _) (rowD _) (rowD _)
end Go.Hb
end

