/-
  A layer for reasoning about the program's calls, and contracts of its functions (MT). CONDITIONS: none; each theorem bears its own.
-/
import Derived.Test.YtdnbmcnckojglaaGreatMS
set_option linter.unusedVariables false
set_option linter.unusedSimpArgs false
namespace Go.Hb
open Go Go.Proofs Go.RowKit
set_option maxRecDepth 100000
set_option maxHeartbeats 800000
attribute [-simp] aC aL aOper aThen aInBlock aIf aPlan aAppend aLen aIndexAddr aSlice aCells aBounds lBr aq initT aev aAppendOwn aAppendNil aAppendNew aAppendRef LV.cells LV.cellsOk getElem?_pos getElem?_neg
def inK (c : Cor) (s : Int) (k : Nat) : List Int := ((List.range k).filter fun (t : Nat) => decide ((nth c.threads t).state = s)).map fun (t : Nat) => (t : Int)
theorem inK_succ (c : Cor) (s : Int) (k : Nat) : inK c s (k + 1) = if (nth c.threads k).state = s then inK c s k ++ [(k : Int)] else inK c s k := by
 unfold inK
 rw [List.range_succ, List.filter_append, List.map_append]
 by_cases h : (nth c.threads k).state = s
 ·rw [if_pos h]; simp [h]
 ·rw [if_neg h]; simp [h]
theorem inK_len (c : Cor) (s : Int) (k : Nat) : (inK c s k).length ≤ k := by
 unfold inK
 rw [List.length_map]
 have := List.length_filter_le (fun (t : Nat) => decide ((nth c.threads t).state = s)) (List.range k)
 simpa using this
theorem inC_mem {c : Cor} {s t : Int} (h : t ∈ inC c s) : 0 ≤ t ∧ t < c.threads.length ∧ (at' c.threads t).state = s := by
 unfold inC at h
 rw [List.mem_map] at h
 obtain ⟨n, h1, rfl⟩ := h
 rw [List.mem_filter] at h1
 simp at h1
 exact ⟨by omega, by omega, h1.2⟩
theorem in_p {c : Cor} (hn : c.threads.length ≤ 1000) (st : Int) : PureC Tryz.prog 54 [.agg [.int .i64 c.now, row c.threads, row c.owners, row c.counts, row c.bufs, row c.lockq, row c.waitq, row c.downq, row c.sendq, row c.recvq], .int .i64 st] (row (inC c st)) := by
 refine Fresh.pure (Fresh.of fun s v => ?_)
 refine aCalls_go Tryz.func54 rfl (by decide) Tryz.ntmps54 (by simp) false ?_
 have hres : Tryz.f54.results = #[.tmp 4] := rfl
 repeat' (first|(with_reducible first|refine bt ?_|refine bf ?_|(first|refine bc ?_ ?_|refine gc ?_ ?_|refine pc ?_ ?_)<;>intro _)|simp -implicitDefEqProofs(maxSteps:=2000000)(disch:=first|assumption|omega)[*, ])
 refine aW_for (β := LV × List Nat) false c.threads.length (fun k q => GroE v q.2 (inK c st k) q.1) (fun k q => [(5, q.1), (6, .int .i64 k), (7, .any), (8, .any), (9, .any), (10, .any), (11, .any), (14, .any), (15, .any), (16, .any), (17, .any), (18, .any), (19, .any), (20, .any), (21, .any), (22, .any), (23, .any), (24, .any), (25, .any), (12, .any), (13, .any)]) (fun _ _ => s ++ [.cells [.int .i64 c.now, row c.threads, row c.owners, row c.counts, row c.bufs, row c.lockq, row c.waitq, row c.downq, row c.sendq, row c.recvq]]) (fun _ q => q.2) ?_ ?_
 ·exact ⟨(.nils, v), GroE.nil _, by (refine Fits.of ?_ (Off.refl _ _); simp [upd_apply, upds_cons]), rfl, rfl⟩
 rintro k ⟨x, v1⟩ hk hG
 simp only at hG
 have hlen := inK_len c st k
 have hgc := hG.gro.cells
 have hsucc := inK_succ c st k
 by_cases hlt : k < c.threads.length
 ·have hx := ix_in (l := c.threads) (i := (k : Int)) (by omega) (by omega)
  by_cases hs : (nth c.threads k).state = st
  ·obtain ⟨x2, v2, g2, _, gb⟩ := hG.push (P := Tryz.prog) (t := 23) (t2 := 23) (sz := 1) (by_ := 8) (by kernel_rfl) rfl (by omega) (k : Int) (by omega)
   simp only [enc_int] at gb
   rw [if_pos hs] at hsucc
   rw [← hsucc] at g2
   clear hsucc
   repeat' (first|(with_reducible first|refine bt ?_|refine bf ?_|(first|refine bc ?_ ?_|refine gc ?_ ?_|refine pc ?_ ?_)<;>intro _)|simp -implicitDefEqProofs(maxSteps:=2000000)(disch:=first|assumption|omega)[*, ])
   exact ⟨hlt, (x2, v2), g2, by (refine Fits.of ?_ ?_; rotate_left; (repeat (first | with_reducible exact Off.refl _ _ | refine Off.upd rfl ?_ | refine Off.updO rfl ?_ | refine Off.upds rfl ?_)); simp [upd_apply, upds_cons]), by simp, rfl⟩
  ·rw [if_neg hs] at hsucc
   rw [← hsucc] at hG
   clear hsucc
   repeat' (first|(with_reducible first|refine bt ?_|refine bf ?_|(first|refine bc ?_ ?_|refine gc ?_ ?_|refine pc ?_ ?_)<;>intro _)|simp -implicitDefEqProofs(maxSteps:=2000000)(disch:=first|assumption|omega)[*, ])
   exact ⟨hlt, (x, v1), hG, by (refine Fits.of ?_ ?_; rotate_left; (repeat (first | with_reducible exact Off.refl _ _ | refine Off.upd rfl ?_ | refine Off.updO rfl ?_ | refine Off.upds rfl ?_)); simp [upd_apply, upds_cons]), by simp, rfl⟩
 ·have hke : k = c.threads.length := by omega
  subst hke
  have hg : GroE v v1 (inC c st) x := hG
  clear hsucc hG
  repeat' (first|(with_reducible first|refine bt ?_|refine bf ?_|(first|refine bc ?_ ?_|refine gc ?_ ?_|refine pc ?_ ?_)<;>intro _)|simp -implicitDefEqProofs(maxSteps:=2000000)(disch:=first|assumption|omega)[*, ])
  exact hg.gro
theorem next_p {c : Cor} (hn : c.threads.length ≤ 1000) : PureC Tryz.prog 55 [.agg [.int .i64 c.now, row c.threads, row c.owners, row c.counts, row c.bufs, row c.lockq, row c.waitq, row c.downq, row c.sendq, row c.recvq]] (.tup [.int .i64 (nextC c).1, .bool (nextC c).2]) := by
 refine .of fun s v => ?_
 have hi := in_p (c := c) hn 1
 have hm : ∀ t ∈ inC c 1, 0 ≤ t ∧ t < c.threads.length := fun t ht => ⟨(inC_mem ht).1, (inC_mem ht).2.1⟩
 have hlb : (inC c 1).length ≤ 1000 := Nat.le_trans (inK_len c 1 c.threads.length) hn
 unfold nextC
 generalize inC c 1 = l at *
 refine aCalls_go Tryz.func55 rfl (by decide) Tryz.ntmps55 (by simp) false ?_
 have hres : Tryz.f55.results = #[.tmp 2, .tmp 3] := rfl
 repeat' (first|(with_reducible first|refine bt ?_|refine bf ?_|(first|refine bc ?_ ?_|refine gc ?_ ?_|refine pc ?_ ?_)<;>intro _|(refine dr P55 mixed ?_ ?_ ?_;kernel_rfl;kernel_rfl)|refine callC hi (fun v1 hv1 => ?_))|simp -implicitDefEqProofs(maxSteps:=2000000)(disch:=first|assumption|omega)[*, ])
 refine aW_for (β := Int) false l.length (fun k a => (l.take k).foldl (nextStep c) (0, 0) = (a, k)) (fun k a => [(5, .int .i64 a), (6, .int .i64 k), (10, .any), (11, .any), (12, .any), (13, .any), (16, .any), (17, .any), (18, .any), (19, .any), (20, .any), (21, .any), (22, .any), (23, .any), (24, .any), (7, .any), (25, .any), (26, .any), (27, .any), (28, .any), (29, .any), (30, .any), (31, .any), (32, .any), (14, .any), (15, .any)]) (fun _ _ => s ++ [.cells [.int .i64 c.now, row c.threads, row c.owners, row c.counts, row c.bufs, row c.lockq, row c.waitq, row c.downq, row c.sendq, row c.recvq]]) (fun _ _ => v1) ?_ ?_
 ·exact ⟨0, rfl, by (refine Fits.of ?_ (Off.refl _ _); simp [upd_apply, upds_cons]), rfl, rfl⟩
 rintro k a hk hI
 replace hI : (l.take k).foldl (nextStep c) (0, 0) = (a, k) := hI
 by_cases hlt : k < l.length
 ·have hin := hm _ (nth_mem hlt)
  have hx := ix_in (l := l) (i := (k : Int)) (by omega) (by omega)
  have hxt := ix_in (l := c.threads) hin.1 hin.2
  have hstep : (l.take (k + 1)).foldl (nextStep c) (0, 0) = (if k = 0 ∨ (nth c.threads (nth l k).toNat).on < a then (nth c.threads (nth l k).toNat).on else a, k + 1) := by
   rw [take_succ_nth hlt, List.foldl_append, hI]; rfl
  clear hI
  by_cases h0 : k = 0
  ·rw [if_pos (.inl h0)] at hstep
   subst h0
   repeat' (first|(with_reducible first|refine bt ?_|refine bf ?_|(first|refine bc ?_ ?_|refine gc ?_ ?_|refine pc ?_ ?_)<;>intro _|(refine dr P55 mixed ?_ ?_ ?_;kernel_rfl;kernel_rfl))|simp -implicitDefEqProofs(maxSteps:=2000000)(disch:=first|assumption|omega)[*, ])
   exact ⟨hlt, _, hstep, by (refine Fits.of ?_ ?_; rotate_left; (repeat (first | with_reducible exact Off.refl _ _ | refine Off.upd rfl ?_ | refine Off.updO rfl ?_ | refine Off.upds rfl ?_)); simp [upd_apply, upds_cons]), by simp, rfl⟩
  ·by_cases h1 : (nth c.threads (nth l k).toNat).on < a
   ·rw [if_pos (.inr h1)] at hstep
    repeat' (first|(with_reducible first|refine bt ?_|refine bf ?_|(first|refine bc ?_ ?_|refine gc ?_ ?_|refine pc ?_ ?_)<;>intro _|(refine dr P55 mixed ?_ ?_ ?_;kernel_rfl;kernel_rfl))|simp -implicitDefEqProofs(maxSteps:=2000000)(disch:=first|assumption|omega)[*, ])
    exact ⟨hlt, _, hstep, by (refine Fits.of ?_ ?_; rotate_left; (repeat (first | with_reducible exact Off.refl _ _ | refine Off.upd rfl ?_ | refine Off.updO rfl ?_ | refine Off.upds rfl ?_)); simp [upd_apply, upds_cons]), by simp, rfl⟩
   ·rw [if_neg (by omega)] at hstep
    repeat' (first|(with_reducible first|refine bt ?_|refine bf ?_|(first|refine bc ?_ ?_|refine gc ?_ ?_|refine pc ?_ ?_)<;>intro _|(refine dr P55 mixed ?_ ?_ ?_;kernel_rfl;kernel_rfl))|simp -implicitDefEqProofs(maxSteps:=2000000)(disch:=first|assumption|omega)[*, ])
    exact ⟨hlt, _, hstep, by (refine Fits.of ?_ ?_; rotate_left; (repeat (first | with_reducible exact Off.refl _ _ | refine Off.upd rfl ?_ | refine Off.updO rfl ?_ | refine Off.upds rfl ?_)); simp [upd_apply, upds_cons]), by simp, rfl⟩
 ·have hke : k = l.length := by omega
  subst hke
  rw [List.take_of_length_le (Nat.le_refl _)] at hI
  rw [hI]
  repeat' (first|(with_reducible first|refine bt ?_|refine bf ?_|(first|refine bc ?_ ?_|refine gc ?_ ?_|refine pc ?_ ?_)<;>intro _|(refine dr P55 mixed ?_ ?_ ?_;kernel_rfl;kernel_rfl))|simp -implicitDefEqProofs(maxSteps:=2000000)(disch:=first|assumption|omega)[*, ])
  all_goals exact Ends.eqat (by simp) (by simp) hv1
end Go.Hb
