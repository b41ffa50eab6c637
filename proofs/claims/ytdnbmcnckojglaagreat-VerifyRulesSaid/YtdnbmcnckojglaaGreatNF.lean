/-
  A layer for reasoning about the program's calls, and contracts of its functions (NF). CONDITIONS: none; each theorem bears its own.
-/
import Derived.Test.YtdnbmcnckojglaaGreatNE
set_option linter.unusedVariables false
set_option linter.unusedSimpArgs false
namespace Go.Hb
open Go Go.Proofs Go.RowKit
set_option maxRecDepth 100000
set_option maxHeartbeats 800000
attribute [-simp] aC aL aOper aThen aInBlock aIf aPlan aAppend aLen aIndexAddr aSlice aCells aBounds lBr aq initT aev aAppendOwn aAppendNil aAppendNew aAppendRef LV.cells LV.cellsOk getElem?_pos getElem?_neg
theorem first_at {p : Prog} {c : Cor} {k : Nat} (hk : k < 8) (h1 : ∀ k', k' < k → (ruleC p c (k' : Nat)).2 = true) (h2 : (ruleC p c (k : Nat)).2 = false) : firstC p c = ((k : Int), (ruleC p c (k : Nat)).1) := by
 unfold firstC
 have : (List.range 8).find? (fun (r : Nat) => !(ruleC p c r).2) = some k := by
  rw [List.find?_eq_some_iff_getElem]
  refine ⟨by simp [h2], k, by simpa using hk, by simp, fun j hj => ?_⟩
  simp [h1 j hj]
 rw [this]
theorem first_all {p : Prog} {c : Cor} (h1 : ∀ k', k' < 8 → (ruleC p c (k' : Nat)).2 = true) : firstC p c = (-1, -1) := by
 unfold firstC
 have : (List.range 8).find? (fun (r : Nat) => !(ruleC p c r).2) = none := by
  rw [List.find?_eq_none]
  intro i hi
  simp [h1 i (by simpa using hi)]
 rw [this]
theorem first_p {p : Prog} {c : Cor} (h : ShC p c) : PureC Tryz.prog 12 [.agg [row p.funcs, .int .i64 p.mutexes, row p.conds, row p.semas, row p.chans, row p.choices, .int .i64 p.threads], .agg [.int .i64 c.now, row c.threads, row c.owners, row c.counts, row c.bufs, row c.lockq, row c.waitq, row c.downq, row c.sendq, row c.recvq]] (.tup [.int .i64 (firstC p c).1, .int .i64 (firstC p c).2]) := by
 refine .of fun s v => ?_
 refine aCalls_go Tryz.func12 rfl (by decide) Tryz.ntmps12 (by simp) false ?_
 have hres : Tryz.f12.results = #[.tmp 4, .tmp 5] := rfl
 repeat' (first|(with_reducible first|refine bt ?_|refine bf ?_|(first|refine bc ?_ ?_|refine gc ?_ ?_|refine pc ?_ ?_)<;>intro _)|simp -implicitDefEqProofs(maxSteps:=2000000)(disch:=first|assumption|omega)[*, ])
 refine aW_for0 (β := List Nat) false 8 (fun k v' => v <+: v' ∧ ∀ k', k' < k → (ruleC p c (k' : Nat)).2 = true) (fun k v' => [(9, .int .i64 k), (10, .any), (11, .any), (6, .any), (13, .any), (14, .any), (15, .any), (16, .any), (12, .any), (17, .any), (18, .any), (7, .any), (8, .any), (19, .any), (20, .any), (21, .any), (22, .any), (4, .any), (5, .any), (23, .any)]) (fun _ v' => v') ⟨v, ⟨List.prefix_refl _, by simp⟩, by (refine Fits.of ?_ (Off.refl _ _); simp [upd_apply, upds_cons]), rfl⟩ ?_
 rintro k v1 hk ⟨hv1, hI⟩
 by_cases hlt : k < 8
 ·have hru := rule_p h (k : Int)
  have hi2 : (ruleC p c (k : Nat)).2 = true → ∀ k', k' < k + 1 → (ruleC p c (k' : Nat)).2 = true := fun hh k' hk' => by
   by_cases e : k' = k
   ·subst e; exact hh
   ·exact hI k' (by omega)
  have hfa := fun hh => first_at (p := p) (c := c) hlt hI hh
  generalize ruleC p c (k : Nat) = r at *
  obtain ⟨i, b⟩ := r
  simp only at hru hi2 hfa
  have hlt' : (k : Int) < 8 := by omega
  cases b
  ·rw [hfa rfl]
   repeat' (first|(with_reducible first|refine bt ?_|refine bf ?_|(first|refine bc ?_ ?_|refine gc ?_ ?_|refine pc ?_ ?_)<;>intro _|refine callC hru (fun v2 hv2 => ?_))|simp -implicitDefEqProofs(maxSteps:=2000000)(disch:=first|assumption|omega)[*, ])
   all_goals exact Ends.eqat rfl (by simp) (hv1.trans hv2)
  ·have hI2 := hi2 rfl
   repeat' (first|(with_reducible first|refine bt ?_|refine bf ?_|(first|refine bc ?_ ?_|refine gc ?_ ?_|refine pc ?_ ?_)<;>intro _|refine callC hru (fun v2 hv2 => ?_))|simp -implicitDefEqProofs(maxSteps:=2000000)(disch:=first|assumption|omega)[*, ])
   all_goals exact ⟨hlt, v2, ⟨hv1.trans hv2, hI2⟩, by (refine Fits.of ?_ ?_; rotate_left; (repeat (first | with_reducible exact Off.refl _ _ | refine Off.upd rfl ?_ | refine Off.updO rfl ?_ | refine Off.upds rfl ?_)); simp [upd_apply, upds_cons]), rfl, rfl⟩
 ·have hke : k = 8 := by omega
  subst hke
  rw [first_all hI]
  repeat' (first|(with_reducible first|refine bt ?_|refine bf ?_|(first|refine bc ?_ ?_|refine gc ?_ ?_|refine pc ?_ ?_)<;>intro _)|simp -implicitDefEqProofs(maxSteps:=2000000)(disch:=first|assumption|omega)[*, ])
  all_goals exact Ends.eqat rfl (by simp) hv1
theorem fits_p {p : Prog} {c : Cor} (h : ShC p c) : PureC Tryz.prog 14 [.agg [row p.funcs, .int .i64 p.mutexes, row p.conds, row p.semas, row p.chans, row p.choices, .int .i64 p.threads], .agg [.int .i64 c.now, row c.threads, row c.owners, row c.counts, row c.bufs, row c.lockq, row c.waitq, row c.downq, row c.sendq, row c.recvq]] (.bool (fitsC p c)) := by
 refine .of fun s v => ?_
 have hf := first_p h
 unfold fitsC
 generalize firstC p c = r at *
 refine aCalls_go Tryz.func14 rfl (by decide) Tryz.ntmps14 (by simp) false ?_
 have hres : Tryz.f14.results = #[.tmp 4] := rfl
 repeat' (first|(with_reducible first|refine bt ?_|refine bf ?_|(first|refine bc ?_ ?_|refine gc ?_ ?_|refine pc ?_ ?_)<;>intro _|refine callC hf (fun v2 hv2 => ?_))|simp -implicitDefEqProofs(maxSteps:=2000000)(disch:=first|assumption|omega)[*, ])
 all_goals exact Ends.eqat rfl (by simp) hv2
end Go.Hb
