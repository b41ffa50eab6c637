/-
  A layer for reasoning about the program's calls, and contracts of its functions (NE). CONDITIONS: none; each theorem bears its own.
-/
import Derived.Test.YtdnbmcnckojglaaGreatND
set_option linter.unusedVariables false
set_option linter.unusedSimpArgs false
namespace Go.Hb
open Go Go.Proofs Go.RowKit
set_option maxRecDepth 100000
set_option maxHeartbeats 800000
attribute [-simp] aC aL aOper aThen aInBlock aIf aPlan aAppend aLen aIndexAddr aSlice aCells aBounds lBr aq initT aev aAppendOwn aAppendNil aAppendNew aAppendRef LV.cells LV.cellsOk getElem?_pos getElem?_neg
def RulesR (p : Prog) (c : Cor) (s : List AObj) (v : List Nat) (x : LV) (s' : List AObj) (v' : List Nat) : Prop := ∃ Z, x = .agg [.str ⟨#[114, 101, 115, 116]⟩, .int .i64 c.threads.length, .fn (.func 67) [] [.ptr (s.length + 3) 0, .ptr (s.length + 1) 0], .str ⟨#[115, 108, 101, 101, 112]⟩, .int .i64 c.threads.length, .fn (.func 69) [] [.ptr (s.length + 3) 0, .ptr (s.length + 1) 0], .str ⟨#[106, 111, 105, 110]⟩, .int .i64 c.threads.length, .fn (.func 70) [] [.ptr (s.length + 1) 0, .ptr (s.length + 3) 0, .ptr (s.length + 4) 0], .str ⟨#[111, 110]⟩, .int .i64 c.threads.length, .fn (.func 71) [.agg [row p.funcs, .int .i64 p.mutexes, row p.conds, row p.semas, row p.chans, row p.choices, .int .i64 p.threads, .int .i64 c.now, row c.threads, row c.owners, row c.counts, row c.bufs, row c.lockq, row c.waitq, row c.downq, row c.sendq, row c.recvq]] [], .str ⟨#[114, 111, 119, 115]⟩, .int .i64 c.threads.length, .fn (.func 72) [.agg [row p.funcs, .int .i64 p.mutexes, row p.conds, row p.semas, row p.chans, row p.choices, .int .i64 p.threads, .int .i64 c.now, row c.threads, row c.owners, row c.counts, row c.bufs, row c.lockq, row c.waitq, row c.downq, row c.sendq, row c.recvq]] [], .str ⟨#[109, 117, 116, 101, 120]⟩, .int .i64 c.owners.length, .fn (.func 73) [] [.ptr (s.length + 1) 0], .str ⟨#[115, 101, 109, 97]⟩, .int .i64 c.counts.length, .fn (.func 74) [] [.ptr (s.length + 1) 0], .str ⟨#[99, 104, 97, 110]⟩, .int .i64 c.bufs.length, .fn (.func 75) [] [.ptr (s.length + 1) 0, .ptr (s.length) 0]] ∧ s ++ [AObj.cells [row p.funcs, .int .i64 p.mutexes, row p.conds, row p.semas, row p.chans, row p.choices, .int .i64 p.threads], AObj.cells [.int .i64 c.now, row c.threads, row c.owners, row c.counts, row c.bufs, row c.lockq, row c.waitq, row c.downq, row c.sendq, row c.recvq], Z, AObj.cells [row p.funcs, .int .i64 p.mutexes, row p.conds, row p.semas, row p.chans, row p.choices, .int .i64 p.threads, .int .i64 c.now, row c.threads, row c.owners, row c.counts, row c.bufs, row c.lockq, row c.waitq, row c.downq, row c.sendq, row c.recvq], .cells [.int .i64 c.threads.length]] = s' ∧ v = v'
set_option maxHeartbeats 8000000 in
theorem rules_c {p : Prog} {c : Cor} (hb : CorB c) {s : List AObj} {v : List Nat} : aCalls Tryz.prog 36 [.agg [row p.funcs, .int .i64 p.mutexes, row p.conds, row p.semas, row p.chans, row p.choices, .int .i64 p.threads], .agg [.int .i64 c.now, row c.threads, row c.owners, row c.counts, row c.bufs, row c.lockq, row c.waitq, row c.downq, row c.sendq, row c.recvq]] s v (RulesR p c s v) := by
 have h1 := hb.threads
 unfold RulesR
 refine aCalls_go Tryz.func36 rfl (by decide) Tryz.ntmps36 (by simp) false ?_
 have hres : Tryz.f36.results = #[.cell 4 81] := rfl
 repeat' (first|(with_reducible first|refine bt ?_|refine bf ?_|(first|refine bc ?_ ?_|refine gc ?_ ?_|refine pc ?_ ?_)<;>intro _|refine And.intro ?_ ?_)|simp -implicitDefEqProofs(maxSteps:=2000000)(disch:=first|assumption|omega)[*, ])
theorem rule_at {p : Prog} {c : Cor} {r : Int} (hr : ¬ (r < 0 ∨ 8 ≤ r)) {k : Nat} (hk : k < placesC c r) (h1 : ∀ k', k' < k → holdsC p c r (k' : Nat) = true) (h2 : holdsC p c r (k : Nat) = false) : ruleC p c r = ((k : Int), false) := by
 unfold ruleC
 rw [if_neg hr]
 have : (List.range (placesC c r)).find? (fun (i : Nat) => !holdsC p c r i) = some k := by
  rw [List.find?_eq_some_iff_getElem]
  refine ⟨by simp [h2], k, by simpa using hk, by simp, fun j hj => ?_⟩
  simp [h1 j hj]
 rw [this]
theorem rule_all {p : Prog} {c : Cor} {r : Int} (hr : ¬ (r < 0 ∨ 8 ≤ r)) (h1 : ∀ k', k' < placesC c r → holdsC p c r (k' : Nat) = true) : ruleC p c r = (-1, true) := by
 unfold ruleC
 rw [if_neg hr]
 have : (List.range (placesC c r)).find? (fun (i : Nat) => !holdsC p c r i) = none := by
  rw [List.find?_eq_none]
  intro i hi
  simp [h1 i (by simpa using hi)]
 rw [this]
set_option maxHeartbeats 16000000 in
theorem rule_p {p : Prog} {c : Cor} (h : ShC p c) (r : Int) : PureC Tryz.prog 10 [.agg [row p.funcs, .int .i64 p.mutexes, row p.conds, row p.semas, row p.chans, row p.choices, .int .i64 p.threads], .agg [.int .i64 c.now, row c.threads, row c.owners, row c.counts, row c.bufs, row c.lockq, row c.waitq, row c.downq, row c.sendq, row c.recvq], .int .i64 r] (.tup [.int .i64 (ruleC p c r).1, .bool (ruleC p c r).2]) := by
 refine .of fun s v => ?_
 by_cases hr : r < 0 ∨ 8 ≤ r
 ·rw [show ruleC p c r = (-1, true) by unfold ruleC; rw [if_pos hr]]
  by_cases h0 : r < 0
  ·refine aCalls_go Tryz.func10 rfl (by decide) Tryz.ntmps10 (by simp) false ?_
   have hres : Tryz.f10.results = #[.tmp 6, .tmp 7] := rfl
   repeat' (first|(with_reducible first|refine bt ?_|refine bf ?_|(first|refine bc ?_ ?_|refine gc ?_ ?_|refine pc ?_ ?_)<;>intro _|refine And.intro ?_ ?_)|simp -implicitDefEqProofs(maxSteps:=2000000)(disch:=first|assumption|omega)[*, ])
   all_goals exact Ends.eqat rfl (by simp) (List.prefix_refl _)
  ·have h8 : 8 ≤ r := by omega
   refine aCalls_go Tryz.func10 rfl (by decide) Tryz.ntmps10 (by simp) false ?_
   have hres : Tryz.f10.results = #[.tmp 6, .tmp 7] := rfl
   repeat' (first|(with_reducible first|refine bt ?_|refine bf ?_|(first|refine bc ?_ ?_|refine gc ?_ ?_|refine pc ?_ ?_)<;>intro _|refine And.intro ?_ ?_)|simp -implicitDefEqProofs(maxSteps:=2000000)(disch:=first|assumption|omega)[*, ])
   all_goals exact Ends.eqat rfl (by simp) (List.prefix_refl _)
 have r0 : ¬ r < 0 := by omega
 have r8 : ¬ 8 ≤ r := by omega
 refine aCalls_go Tryz.func10 rfl (by decide) Tryz.ntmps10 (by simp) false ?_
 have hres : Tryz.f10.results = #[.tmp 6, .tmp 7] := rfl
 repeat' (first|(with_reducible first|refine bt ?_|refine bf ?_|(first|refine bc ?_ ?_|refine gc ?_ ?_|refine pc ?_ ?_)<;>intro _|refine And.intro ?_ ?_)|simp -implicitDefEqProofs(maxSteps:=2000000)(disch:=first|assumption|omega)[*, ])
 refine aCalls_mono (rules_c h.b) ?_
 rintro _ _ _ ⟨Z, rfl, rfl, rfl⟩
 have hcase : r = 0 ∨ r = 1 ∨ r = 2 ∨ r = 3 ∨ r = 4 ∨ r = 5 ∨ r = 6 ∨ r = 7 := by omega
 have n1 := h.b.threads; have n2 := h.b.owners; have n3 := h.b.counts; have n4 := h.b.bufs.1
 rcases hcase with e | e | e | e | e | e | e | e
 all_goals subst e
 ·have hnr : ¬ ((0 : Int) < 0 ∨ 8 ≤ (0 : Int)) := by omega
  repeat' (first|(with_reducible first|refine bt ?_|refine bf ?_|(first|refine bc ?_ ?_|refine gc ?_ ?_|refine pc ?_ ?_)<;>intro _|refine And.intro ?_ ?_)|simp -implicitDefEqProofs(maxSteps:=2000000)(disch:=first|assumption|omega)[*, ])
  refine aW_for0 (β := List Nat) false c.threads.length (fun k v' => v <+: v' ∧ ∀ k', k' < k → holdsC p c 0 (k' : Nat) = true) (fun k v' => [(23, .int .i64 k), (24, .any), (25, .any), (9, .any), (26, .any), (27, .any), (28, .any), (29, .any), (30, .any), (31, .any), (6, .any), (7, .any), (32, .any)]) (fun _ v' => v') ⟨v, ⟨List.prefix_refl _, by simp⟩, by (refine Fits.of ?_ (Off.refl _ _); simp [upd_apply, upds_cons]), rfl⟩ ?_
  rintro k v1 hk ⟨hv1, hI⟩
  by_cases hlt : k < c.threads.length
  ·have hcl := fun (X : AObj) => (show Ret Tryz.prog 67 [.int .i64 k, .ptr (s.length + 2 + 3) 0, .ptr (s.length + 2 + 1) 0] (s ++ [AObj.cells [row p.funcs, .int .i64 p.mutexes, row p.conds, row p.semas, row p.chans, row p.choices, .int .i64 p.threads], AObj.cells [.int .i64 c.now, row c.threads, row c.owners, row c.counts, row c.bufs, row c.lockq, row c.waitq, row c.downq, row c.sendq, row c.recvq], AObj.cells [row p.funcs, .int .i64 p.mutexes, row p.conds, row p.semas, row p.chans, row p.choices, .int .i64 p.threads], AObj.cells [.int .i64 c.now, row c.threads, row c.owners, row c.counts, row c.bufs, row c.lockq, row c.waitq, row c.downq, row c.sendq, row c.recvq], Z, AObj.cells [row p.funcs, .int .i64 p.mutexes, row p.conds, row p.semas, row p.chans, row p.choices, .int .i64 p.threads, .int .i64 c.now, row c.threads, row c.owners, row c.counts, row c.bufs, row c.lockq, row c.waitq, row c.downq, row c.sendq, row c.recvq], .cells [.int .i64 c.threads.length], X]) (.bool (holdsC p c 0 (k : Nat))) from rule0_c (p := p) (c := c) (by rw [Nat.add_assoc, get_app]; rfl) (by rw [Nat.add_assoc, get_app]; rfl) (by omega) (by omega))
   cases hh : holdsC p c 0 (k : Nat)
   ·rw [rule_at hnr (by simpa [placesC] using hlt) hI hh]
    rw [hh] at hcl
    repeat' (first|(with_reducible first|refine bt ?_|refine bf ?_|(first|refine bc ?_ ?_|refine gc ?_ ?_|refine pc ?_ ?_)<;>intro _|refine And.intro ?_ ?_|refine callR (hcl _) (fun v2 hv2 => ?_))|simp -implicitDefEqProofs(maxSteps:=2000000)(disch:=first|assumption|omega)[*, ])
    all_goals exact Ends.eqat rfl (by simp) (hv1.trans hv2)
   ·have hI2 : ∀ k', k' < k + 1 → holdsC p c 0 (k' : Nat) = true := fun k' hk' => by
     by_cases e : k' = k
     ·subst e; exact hh
     ·exact hI k' (by omega)
    rw [hh] at hcl
    repeat' (first|(with_reducible first|refine bt ?_|refine bf ?_|(first|refine bc ?_ ?_|refine gc ?_ ?_|refine pc ?_ ?_)<;>intro _|refine And.intro ?_ ?_|refine callR (hcl _) (fun v2 hv2 => ?_))|simp -implicitDefEqProofs(maxSteps:=2000000)(disch:=first|assumption|omega)[*, ])
    all_goals exact ⟨hlt, v2, ⟨hv1.trans hv2, hI2⟩, by (refine Fits.of ?_ ?_; rotate_left; (repeat (first | with_reducible exact Off.refl _ _ | refine Off.upd rfl ?_ | refine Off.updO rfl ?_ | refine Off.upds rfl ?_)); simp [upd_apply, upds_cons]), rfl, rfl⟩
  ·have hke : k = c.threads.length := by omega
   subst hke
   rw [rule_all hnr (fun k' hk' => hI k' (by simpa [placesC] using hk'))]
   repeat' (first|(with_reducible first|refine bt ?_|refine bf ?_|(first|refine bc ?_ ?_|refine gc ?_ ?_|refine pc ?_ ?_)<;>intro _|refine And.intro ?_ ?_)|simp -implicitDefEqProofs(maxSteps:=2000000)(disch:=first|assumption|omega)[*, ])
   all_goals exact Ends.eqat rfl (by simp) hv1
 ·have hnr : ¬ ((1 : Int) < 0 ∨ 8 ≤ (1 : Int)) := by omega
  repeat' (first|(with_reducible first|refine bt ?_|refine bf ?_|(first|refine bc ?_ ?_|refine gc ?_ ?_|refine pc ?_ ?_)<;>intro _|refine And.intro ?_ ?_)|simp -implicitDefEqProofs(maxSteps:=2000000)(disch:=first|assumption|omega)[*, ])
  refine aW_for0 (β := List Nat) false c.threads.length (fun k v' => v <+: v' ∧ ∀ k', k' < k → holdsC p c 1 (k' : Nat) = true) (fun k v' => [(23, .int .i64 k), (24, .any), (25, .any), (9, .any), (26, .any), (27, .any), (28, .any), (29, .any), (30, .any), (31, .any), (6, .any), (7, .any), (32, .any)]) (fun _ v' => v') ⟨v, ⟨List.prefix_refl _, by simp⟩, by (refine Fits.of ?_ (Off.refl _ _); simp [upd_apply, upds_cons]), rfl⟩ ?_
  rintro k v1 hk ⟨hv1, hI⟩
  by_cases hlt : k < c.threads.length
  ·have hcl := fun (X : AObj) => (show Ret Tryz.prog 69 [.int .i64 k, .ptr (s.length + 2 + 3) 0, .ptr (s.length + 2 + 1) 0] (s ++ [AObj.cells [row p.funcs, .int .i64 p.mutexes, row p.conds, row p.semas, row p.chans, row p.choices, .int .i64 p.threads], AObj.cells [.int .i64 c.now, row c.threads, row c.owners, row c.counts, row c.bufs, row c.lockq, row c.waitq, row c.downq, row c.sendq, row c.recvq], AObj.cells [row p.funcs, .int .i64 p.mutexes, row p.conds, row p.semas, row p.chans, row p.choices, .int .i64 p.threads], AObj.cells [.int .i64 c.now, row c.threads, row c.owners, row c.counts, row c.bufs, row c.lockq, row c.waitq, row c.downq, row c.sendq, row c.recvq], Z, AObj.cells [row p.funcs, .int .i64 p.mutexes, row p.conds, row p.semas, row p.chans, row p.choices, .int .i64 p.threads, .int .i64 c.now, row c.threads, row c.owners, row c.counts, row c.bufs, row c.lockq, row c.waitq, row c.downq, row c.sendq, row c.recvq], .cells [.int .i64 c.threads.length], X]) (.bool (holdsC p c 1 (k : Nat))) from rule1_c (p := p) (c := c) (by rw [Nat.add_assoc, get_app]; rfl) (by rw [Nat.add_assoc, get_app]; rfl) (by omega) (by omega))
   cases hh : holdsC p c 1 (k : Nat)
   ·rw [rule_at hnr (by simpa [placesC] using hlt) hI hh]
    rw [hh] at hcl
    repeat' (first|(with_reducible first|refine bt ?_|refine bf ?_|(first|refine bc ?_ ?_|refine gc ?_ ?_|refine pc ?_ ?_)<;>intro _|refine And.intro ?_ ?_|refine callR (hcl _) (fun v2 hv2 => ?_))|simp -implicitDefEqProofs(maxSteps:=2000000)(disch:=first|assumption|omega)[*, ])
    all_goals exact Ends.eqat rfl (by simp) (hv1.trans hv2)
   ·have hI2 : ∀ k', k' < k + 1 → holdsC p c 1 (k' : Nat) = true := fun k' hk' => by
     by_cases e : k' = k
     ·subst e; exact hh
     ·exact hI k' (by omega)
    rw [hh] at hcl
    repeat' (first|(with_reducible first|refine bt ?_|refine bf ?_|(first|refine bc ?_ ?_|refine gc ?_ ?_|refine pc ?_ ?_)<;>intro _|refine And.intro ?_ ?_|refine callR (hcl _) (fun v2 hv2 => ?_))|simp -implicitDefEqProofs(maxSteps:=2000000)(disch:=first|assumption|omega)[*, ])
    all_goals exact ⟨hlt, v2, ⟨hv1.trans hv2, hI2⟩, by (refine Fits.of ?_ ?_; rotate_left; (repeat (first | with_reducible exact Off.refl _ _ | refine Off.upd rfl ?_ | refine Off.updO rfl ?_ | refine Off.upds rfl ?_)); simp [upd_apply, upds_cons]), rfl, rfl⟩
  ·have hke : k = c.threads.length := by omega
   subst hke
   rw [rule_all hnr (fun k' hk' => hI k' (by simpa [placesC] using hk'))]
   repeat' (first|(with_reducible first|refine bt ?_|refine bf ?_|(first|refine bc ?_ ?_|refine gc ?_ ?_|refine pc ?_ ?_)<;>intro _|refine And.intro ?_ ?_)|simp -implicitDefEqProofs(maxSteps:=2000000)(disch:=first|assumption|omega)[*, ])
   all_goals exact Ends.eqat rfl (by simp) hv1
 ·have hnr : ¬ ((2 : Int) < 0 ∨ 8 ≤ (2 : Int)) := by omega
  repeat' (first|(with_reducible first|refine bt ?_|refine bf ?_|(first|refine bc ?_ ?_|refine gc ?_ ?_|refine pc ?_ ?_)<;>intro _|refine And.intro ?_ ?_)|simp -implicitDefEqProofs(maxSteps:=2000000)(disch:=first|assumption|omega)[*, ])
  refine aW_for0 (β := List Nat) false c.threads.length (fun k v' => v <+: v' ∧ ∀ k', k' < k → holdsC p c 2 (k' : Nat) = true) (fun k v' => [(23, .int .i64 k), (24, .any), (25, .any), (9, .any), (26, .any), (27, .any), (28, .any), (29, .any), (30, .any), (31, .any), (6, .any), (7, .any), (32, .any)]) (fun _ v' => v') ⟨v, ⟨List.prefix_refl _, by simp⟩, by (refine Fits.of ?_ (Off.refl _ _); simp [upd_apply, upds_cons]), rfl⟩ ?_
  rintro k v1 hk ⟨hv1, hI⟩
  by_cases hlt : k < c.threads.length
  ·have hcl := fun (X : AObj) => (show Ret Tryz.prog 70 [.int .i64 k, .ptr (s.length + 2 + 1) 0, .ptr (s.length + 2 + 3) 0, .ptr (s.length + 2 + 4) 0] (s ++ [AObj.cells [row p.funcs, .int .i64 p.mutexes, row p.conds, row p.semas, row p.chans, row p.choices, .int .i64 p.threads], AObj.cells [.int .i64 c.now, row c.threads, row c.owners, row c.counts, row c.bufs, row c.lockq, row c.waitq, row c.downq, row c.sendq, row c.recvq], AObj.cells [row p.funcs, .int .i64 p.mutexes, row p.conds, row p.semas, row p.chans, row p.choices, .int .i64 p.threads], AObj.cells [.int .i64 c.now, row c.threads, row c.owners, row c.counts, row c.bufs, row c.lockq, row c.waitq, row c.downq, row c.sendq, row c.recvq], Z, AObj.cells [row p.funcs, .int .i64 p.mutexes, row p.conds, row p.semas, row p.chans, row p.choices, .int .i64 p.threads, .int .i64 c.now, row c.threads, row c.owners, row c.counts, row c.bufs, row c.lockq, row c.waitq, row c.downq, row c.sendq, row c.recvq], .cells [.int .i64 c.threads.length], X]) (.bool (holdsC p c 2 (k : Nat))) from rule2_c (p := p) (c := c) (by rw [Nat.add_assoc, get_app]; rfl) (by rw [Nat.add_assoc, get_app]; rfl) (by rw [Nat.add_assoc, get_app]; rfl) (by omega) (by omega))
   cases hh : holdsC p c 2 (k : Nat)
   ·rw [rule_at hnr (by simpa [placesC] using hlt) hI hh]
    rw [hh] at hcl
    repeat' (first|(with_reducible first|refine bt ?_|refine bf ?_|(first|refine bc ?_ ?_|refine gc ?_ ?_|refine pc ?_ ?_)<;>intro _|refine And.intro ?_ ?_|refine callR (hcl _) (fun v2 hv2 => ?_))|simp -implicitDefEqProofs(maxSteps:=2000000)(disch:=first|assumption|omega)[*, ])
    all_goals exact Ends.eqat rfl (by simp) (hv1.trans hv2)
   ·have hI2 : ∀ k', k' < k + 1 → holdsC p c 2 (k' : Nat) = true := fun k' hk' => by
     by_cases e : k' = k
     ·subst e; exact hh
     ·exact hI k' (by omega)
    rw [hh] at hcl
    repeat' (first|(with_reducible first|refine bt ?_|refine bf ?_|(first|refine bc ?_ ?_|refine gc ?_ ?_|refine pc ?_ ?_)<;>intro _|refine And.intro ?_ ?_|refine callR (hcl _) (fun v2 hv2 => ?_))|simp -implicitDefEqProofs(maxSteps:=2000000)(disch:=first|assumption|omega)[*, ])
    all_goals exact ⟨hlt, v2, ⟨hv1.trans hv2, hI2⟩, by (refine Fits.of ?_ ?_; rotate_left; (repeat (first | with_reducible exact Off.refl _ _ | refine Off.upd rfl ?_ | refine Off.updO rfl ?_ | refine Off.upds rfl ?_)); simp [upd_apply, upds_cons]), rfl, rfl⟩
  ·have hke : k = c.threads.length := by omega
   subst hke
   rw [rule_all hnr (fun k' hk' => hI k' (by simpa [placesC] using hk'))]
   repeat' (first|(with_reducible first|refine bt ?_|refine bf ?_|(first|refine bc ?_ ?_|refine gc ?_ ?_|refine pc ?_ ?_)<;>intro _|refine And.intro ?_ ?_)|simp -implicitDefEqProofs(maxSteps:=2000000)(disch:=first|assumption|omega)[*, ])
   all_goals exact Ends.eqat rfl (by simp) hv1
 ·have hnr : ¬ ((3 : Int) < 0 ∨ 8 ≤ (3 : Int)) := by omega
  repeat' (first|(with_reducible first|refine bt ?_|refine bf ?_|(first|refine bc ?_ ?_|refine gc ?_ ?_|refine pc ?_ ?_)<;>intro _|refine And.intro ?_ ?_)|simp -implicitDefEqProofs(maxSteps:=2000000)(disch:=first|assumption|omega)[*, ])
  refine aW_for0 (β := List Nat) false c.threads.length (fun k v' => v <+: v' ∧ ∀ k', k' < k → holdsC p c 3 (k' : Nat) = true) (fun k v' => [(23, .int .i64 k), (24, .any), (25, .any), (9, .any), (26, .any), (27, .any), (28, .any), (29, .any), (30, .any), (31, .any), (6, .any), (7, .any), (32, .any)]) (fun _ v' => v') ⟨v, ⟨List.prefix_refl _, by simp⟩, by (refine Fits.of ?_ (Off.refl _ _); simp [upd_apply, upds_cons]), rfl⟩ ?_
  rintro k v1 hk ⟨hv1, hI⟩
  by_cases hlt : k < c.threads.length
  ·have hcl := fun (X : AObj) => (show Ret Tryz.prog 71 [.agg [row p.funcs, .int .i64 p.mutexes, row p.conds, row p.semas, row p.chans, row p.choices, .int .i64 p.threads, .int .i64 c.now, row c.threads, row c.owners, row c.counts, row c.bufs, row c.lockq, row c.waitq, row c.downq, row c.sendq, row c.recvq], .int .i64 k] (s ++ [AObj.cells [row p.funcs, .int .i64 p.mutexes, row p.conds, row p.semas, row p.chans, row p.choices, .int .i64 p.threads], AObj.cells [.int .i64 c.now, row c.threads, row c.owners, row c.counts, row c.bufs, row c.lockq, row c.waitq, row c.downq, row c.sendq, row c.recvq], AObj.cells [row p.funcs, .int .i64 p.mutexes, row p.conds, row p.semas, row p.chans, row p.choices, .int .i64 p.threads], AObj.cells [.int .i64 c.now, row c.threads, row c.owners, row c.counts, row c.bufs, row c.lockq, row c.waitq, row c.downq, row c.sendq, row c.recvq], Z, AObj.cells [row p.funcs, .int .i64 p.mutexes, row p.conds, row p.semas, row p.chans, row p.choices, .int .i64 p.threads, .int .i64 c.now, row c.threads, row c.owners, row c.counts, row c.bufs, row c.lockq, row c.waitq, row c.downq, row c.sendq, row c.recvq], .cells [.int .i64 c.threads.length], X]) (.bool (holdsC p c 3 (k : Nat))) from (von_p h (i := (k : Int)) (by omega) (by omega)).ret)
   cases hh : holdsC p c 3 (k : Nat)
   ·rw [rule_at hnr (by simpa [placesC] using hlt) hI hh]
    rw [hh] at hcl
    repeat' (first|(with_reducible first|refine bt ?_|refine bf ?_|(first|refine bc ?_ ?_|refine gc ?_ ?_|refine pc ?_ ?_)<;>intro _|refine And.intro ?_ ?_|refine callR (hcl _) (fun v2 hv2 => ?_))|simp -implicitDefEqProofs(maxSteps:=2000000)(disch:=first|assumption|omega)[*, ])
    all_goals exact Ends.eqat rfl (by simp) (hv1.trans hv2)
   ·have hI2 : ∀ k', k' < k + 1 → holdsC p c 3 (k' : Nat) = true := fun k' hk' => by
     by_cases e : k' = k
     ·subst e; exact hh
     ·exact hI k' (by omega)
    rw [hh] at hcl
    repeat' (first|(with_reducible first|refine bt ?_|refine bf ?_|(first|refine bc ?_ ?_|refine gc ?_ ?_|refine pc ?_ ?_)<;>intro _|refine And.intro ?_ ?_|refine callR (hcl _) (fun v2 hv2 => ?_))|simp -implicitDefEqProofs(maxSteps:=2000000)(disch:=first|assumption|omega)[*, ])
    all_goals exact ⟨hlt, v2, ⟨hv1.trans hv2, hI2⟩, by (refine Fits.of ?_ ?_; rotate_left; (repeat (first | with_reducible exact Off.refl _ _ | refine Off.upd rfl ?_ | refine Off.updO rfl ?_ | refine Off.upds rfl ?_)); simp [upd_apply, upds_cons]), rfl, rfl⟩
  ·have hke : k = c.threads.length := by omega
   subst hke
   rw [rule_all hnr (fun k' hk' => hI k' (by simpa [placesC] using hk'))]
   repeat' (first|(with_reducible first|refine bt ?_|refine bf ?_|(first|refine bc ?_ ?_|refine gc ?_ ?_|refine pc ?_ ?_)<;>intro _|refine And.intro ?_ ?_)|simp -implicitDefEqProofs(maxSteps:=2000000)(disch:=first|assumption|omega)[*, ])
   all_goals exact Ends.eqat rfl (by simp) hv1
 ·have hnr : ¬ ((4 : Int) < 0 ∨ 8 ≤ (4 : Int)) := by omega
  repeat' (first|(with_reducible first|refine bt ?_|refine bf ?_|(first|refine bc ?_ ?_|refine gc ?_ ?_|refine pc ?_ ?_)<;>intro _|refine And.intro ?_ ?_)|simp -implicitDefEqProofs(maxSteps:=2000000)(disch:=first|assumption|omega)[*, ])
  refine aW_for0 (β := List Nat) false c.threads.length (fun k v' => v <+: v' ∧ ∀ k', k' < k → holdsC p c 4 (k' : Nat) = true) (fun k v' => [(23, .int .i64 k), (24, .any), (25, .any), (9, .any), (26, .any), (27, .any), (28, .any), (29, .any), (30, .any), (31, .any), (6, .any), (7, .any), (32, .any)]) (fun _ v' => v') ⟨v, ⟨List.prefix_refl _, by simp⟩, by (refine Fits.of ?_ (Off.refl _ _); simp [upd_apply, upds_cons]), rfl⟩ ?_
  rintro k v1 hk ⟨hv1, hI⟩
  by_cases hlt : k < c.threads.length
  ·have hcl := fun (X : AObj) => (show Ret Tryz.prog 72 [.agg [row p.funcs, .int .i64 p.mutexes, row p.conds, row p.semas, row p.chans, row p.choices, .int .i64 p.threads, .int .i64 c.now, row c.threads, row c.owners, row c.counts, row c.bufs, row c.lockq, row c.waitq, row c.downq, row c.sendq, row c.recvq], .int .i64 k] (s ++ [AObj.cells [row p.funcs, .int .i64 p.mutexes, row p.conds, row p.semas, row p.chans, row p.choices, .int .i64 p.threads], AObj.cells [.int .i64 c.now, row c.threads, row c.owners, row c.counts, row c.bufs, row c.lockq, row c.waitq, row c.downq, row c.sendq, row c.recvq], AObj.cells [row p.funcs, .int .i64 p.mutexes, row p.conds, row p.semas, row p.chans, row p.choices, .int .i64 p.threads], AObj.cells [.int .i64 c.now, row c.threads, row c.owners, row c.counts, row c.bufs, row c.lockq, row c.waitq, row c.downq, row c.sendq, row c.recvq], Z, AObj.cells [row p.funcs, .int .i64 p.mutexes, row p.conds, row p.semas, row p.chans, row p.choices, .int .i64 p.threads, .int .i64 c.now, row c.threads, row c.owners, row c.counts, row c.bufs, row c.lockq, row c.waitq, row c.downq, row c.sendq, row c.recvq], .cells [.int .i64 c.threads.length], X]) (.bool (holdsC p c 4 (k : Nat))) from (vstands_p h (i := (k : Int)) (by omega) (by omega)).ret)
   cases hh : holdsC p c 4 (k : Nat)
   ·rw [rule_at hnr (by simpa [placesC] using hlt) hI hh]
    rw [hh] at hcl
    repeat' (first|(with_reducible first|refine bt ?_|refine bf ?_|(first|refine bc ?_ ?_|refine gc ?_ ?_|refine pc ?_ ?_)<;>intro _|refine And.intro ?_ ?_|refine callR (hcl _) (fun v2 hv2 => ?_))|simp -implicitDefEqProofs(maxSteps:=2000000)(disch:=first|assumption|omega)[*, ])
    all_goals exact Ends.eqat rfl (by simp) (hv1.trans hv2)
   ·have hI2 : ∀ k', k' < k + 1 → holdsC p c 4 (k' : Nat) = true := fun k' hk' => by
     by_cases e : k' = k
     ·subst e; exact hh
     ·exact hI k' (by omega)
    rw [hh] at hcl
    repeat' (first|(with_reducible first|refine bt ?_|refine bf ?_|(first|refine bc ?_ ?_|refine gc ?_ ?_|refine pc ?_ ?_)<;>intro _|refine And.intro ?_ ?_|refine callR (hcl _) (fun v2 hv2 => ?_))|simp -implicitDefEqProofs(maxSteps:=2000000)(disch:=first|assumption|omega)[*, ])
    all_goals exact ⟨hlt, v2, ⟨hv1.trans hv2, hI2⟩, by (refine Fits.of ?_ ?_; rotate_left; (repeat (first | with_reducible exact Off.refl _ _ | refine Off.upd rfl ?_ | refine Off.updO rfl ?_ | refine Off.upds rfl ?_)); simp [upd_apply, upds_cons]), rfl, rfl⟩
  ·have hke : k = c.threads.length := by omega
   subst hke
   rw [rule_all hnr (fun k' hk' => hI k' (by simpa [placesC] using hk'))]
   repeat' (first|(with_reducible first|refine bt ?_|refine bf ?_|(first|refine bc ?_ ?_|refine gc ?_ ?_|refine pc ?_ ?_)<;>intro _|refine And.intro ?_ ?_)|simp -implicitDefEqProofs(maxSteps:=2000000)(disch:=first|assumption|omega)[*, ])
   all_goals exact Ends.eqat rfl (by simp) hv1
 ·have hnr : ¬ ((5 : Int) < 0 ∨ 8 ≤ (5 : Int)) := by omega
  repeat' (first|(with_reducible first|refine bt ?_|refine bf ?_|(first|refine bc ?_ ?_|refine gc ?_ ?_|refine pc ?_ ?_)<;>intro _|refine And.intro ?_ ?_)|simp -implicitDefEqProofs(maxSteps:=2000000)(disch:=first|assumption|omega)[*, ])
  refine aW_for0 (β := List Nat) false c.owners.length (fun k v' => v <+: v' ∧ ∀ k', k' < k → holdsC p c 5 (k' : Nat) = true) (fun k v' => [(23, .int .i64 k), (24, .any), (25, .any), (9, .any), (26, .any), (27, .any), (28, .any), (29, .any), (30, .any), (31, .any), (6, .any), (7, .any), (32, .any)]) (fun _ v' => v') ⟨v, ⟨List.prefix_refl _, by simp⟩, by (refine Fits.of ?_ (Off.refl _ _); simp [upd_apply, upds_cons]), rfl⟩ ?_
  rintro k v1 hk ⟨hv1, hI⟩
  by_cases hlt : k < c.owners.length
  ·have hcl := fun (X : AObj) => (show Ret Tryz.prog 73 [.int .i64 k, .ptr (s.length + 2 + 1) 0] (s ++ [AObj.cells [row p.funcs, .int .i64 p.mutexes, row p.conds, row p.semas, row p.chans, row p.choices, .int .i64 p.threads], AObj.cells [.int .i64 c.now, row c.threads, row c.owners, row c.counts, row c.bufs, row c.lockq, row c.waitq, row c.downq, row c.sendq, row c.recvq], AObj.cells [row p.funcs, .int .i64 p.mutexes, row p.conds, row p.semas, row p.chans, row p.choices, .int .i64 p.threads], AObj.cells [.int .i64 c.now, row c.threads, row c.owners, row c.counts, row c.bufs, row c.lockq, row c.waitq, row c.downq, row c.sendq, row c.recvq], Z, AObj.cells [row p.funcs, .int .i64 p.mutexes, row p.conds, row p.semas, row p.chans, row p.choices, .int .i64 p.threads, .int .i64 c.now, row c.threads, row c.owners, row c.counts, row c.bufs, row c.lockq, row c.waitq, row c.downq, row c.sendq, row c.recvq], .cells [.int .i64 c.threads.length], X]) (.bool (holdsC p c 5 (k : Nat))) from rule5_c h (by rw [Nat.add_assoc, get_app]; rfl) (by omega) (by omega))
   cases hh : holdsC p c 5 (k : Nat)
   ·rw [rule_at hnr (by simpa [placesC] using hlt) hI hh]
    rw [hh] at hcl
    repeat' (first|(with_reducible first|refine bt ?_|refine bf ?_|(first|refine bc ?_ ?_|refine gc ?_ ?_|refine pc ?_ ?_)<;>intro _|refine And.intro ?_ ?_|refine callR (hcl _) (fun v2 hv2 => ?_))|simp -implicitDefEqProofs(maxSteps:=2000000)(disch:=first|assumption|omega)[*, ])
    all_goals exact Ends.eqat rfl (by simp) (hv1.trans hv2)
   ·have hI2 : ∀ k', k' < k + 1 → holdsC p c 5 (k' : Nat) = true := fun k' hk' => by
     by_cases e : k' = k
     ·subst e; exact hh
     ·exact hI k' (by omega)
    rw [hh] at hcl
    repeat' (first|(with_reducible first|refine bt ?_|refine bf ?_|(first|refine bc ?_ ?_|refine gc ?_ ?_|refine pc ?_ ?_)<;>intro _|refine And.intro ?_ ?_|refine callR (hcl _) (fun v2 hv2 => ?_))|simp -implicitDefEqProofs(maxSteps:=2000000)(disch:=first|assumption|omega)[*, ])
    all_goals exact ⟨hlt, v2, ⟨hv1.trans hv2, hI2⟩, by (refine Fits.of ?_ ?_; rotate_left; (repeat (first | with_reducible exact Off.refl _ _ | refine Off.upd rfl ?_ | refine Off.updO rfl ?_ | refine Off.upds rfl ?_)); simp [upd_apply, upds_cons]), rfl, rfl⟩
  ·have hke : k = c.owners.length := by omega
   subst hke
   rw [rule_all hnr (fun k' hk' => hI k' (by simpa [placesC] using hk'))]
   repeat' (first|(with_reducible first|refine bt ?_|refine bf ?_|(first|refine bc ?_ ?_|refine gc ?_ ?_|refine pc ?_ ?_)<;>intro _|refine And.intro ?_ ?_)|simp -implicitDefEqProofs(maxSteps:=2000000)(disch:=first|assumption|omega)[*, ])
   all_goals exact Ends.eqat rfl (by simp) hv1
 ·have hnr : ¬ ((6 : Int) < 0 ∨ 8 ≤ (6 : Int)) := by omega
  repeat' (first|(with_reducible first|refine bt ?_|refine bf ?_|(first|refine bc ?_ ?_|refine gc ?_ ?_|refine pc ?_ ?_)<;>intro _|refine And.intro ?_ ?_)|simp -implicitDefEqProofs(maxSteps:=2000000)(disch:=first|assumption|omega)[*, ])
  refine aW_for0 (β := List Nat) false c.counts.length (fun k v' => v <+: v' ∧ ∀ k', k' < k → holdsC p c 6 (k' : Nat) = true) (fun k v' => [(23, .int .i64 k), (24, .any), (25, .any), (9, .any), (26, .any), (27, .any), (28, .any), (29, .any), (30, .any), (31, .any), (6, .any), (7, .any), (32, .any)]) (fun _ v' => v') ⟨v, ⟨List.prefix_refl _, by simp⟩, by (refine Fits.of ?_ (Off.refl _ _); simp [upd_apply, upds_cons]), rfl⟩ ?_
  rintro k v1 hk ⟨hv1, hI⟩
  by_cases hlt : k < c.counts.length
  ·have hcl := fun (X : AObj) => (show Ret Tryz.prog 74 [.int .i64 k, .ptr (s.length + 2 + 1) 0] (s ++ [AObj.cells [row p.funcs, .int .i64 p.mutexes, row p.conds, row p.semas, row p.chans, row p.choices, .int .i64 p.threads], AObj.cells [.int .i64 c.now, row c.threads, row c.owners, row c.counts, row c.bufs, row c.lockq, row c.waitq, row c.downq, row c.sendq, row c.recvq], AObj.cells [row p.funcs, .int .i64 p.mutexes, row p.conds, row p.semas, row p.chans, row p.choices, .int .i64 p.threads], AObj.cells [.int .i64 c.now, row c.threads, row c.owners, row c.counts, row c.bufs, row c.lockq, row c.waitq, row c.downq, row c.sendq, row c.recvq], Z, AObj.cells [row p.funcs, .int .i64 p.mutexes, row p.conds, row p.semas, row p.chans, row p.choices, .int .i64 p.threads, .int .i64 c.now, row c.threads, row c.owners, row c.counts, row c.bufs, row c.lockq, row c.waitq, row c.downq, row c.sendq, row c.recvq], .cells [.int .i64 c.threads.length], X]) (.bool (holdsC p c 6 (k : Nat))) from rule6_c h (by rw [Nat.add_assoc, get_app]; rfl) (by omega) (by omega))
   cases hh : holdsC p c 6 (k : Nat)
   ·rw [rule_at hnr (by simpa [placesC] using hlt) hI hh]
    rw [hh] at hcl
    repeat' (first|(with_reducible first|refine bt ?_|refine bf ?_|(first|refine bc ?_ ?_|refine gc ?_ ?_|refine pc ?_ ?_)<;>intro _|refine And.intro ?_ ?_|refine callR (hcl _) (fun v2 hv2 => ?_))|simp -implicitDefEqProofs(maxSteps:=2000000)(disch:=first|assumption|omega)[*, ])
    all_goals exact Ends.eqat rfl (by simp) (hv1.trans hv2)
   ·have hI2 : ∀ k', k' < k + 1 → holdsC p c 6 (k' : Nat) = true := fun k' hk' => by
     by_cases e : k' = k
     ·subst e; exact hh
     ·exact hI k' (by omega)
    rw [hh] at hcl
    repeat' (first|(with_reducible first|refine bt ?_|refine bf ?_|(first|refine bc ?_ ?_|refine gc ?_ ?_|refine pc ?_ ?_)<;>intro _|refine And.intro ?_ ?_|refine callR (hcl _) (fun v2 hv2 => ?_))|simp -implicitDefEqProofs(maxSteps:=2000000)(disch:=first|assumption|omega)[*, ])
    all_goals exact ⟨hlt, v2, ⟨hv1.trans hv2, hI2⟩, by (refine Fits.of ?_ ?_; rotate_left; (repeat (first | with_reducible exact Off.refl _ _ | refine Off.upd rfl ?_ | refine Off.updO rfl ?_ | refine Off.upds rfl ?_)); simp [upd_apply, upds_cons]), rfl, rfl⟩
  ·have hke : k = c.counts.length := by omega
   subst hke
   rw [rule_all hnr (fun k' hk' => hI k' (by simpa [placesC] using hk'))]
   repeat' (first|(with_reducible first|refine bt ?_|refine bf ?_|(first|refine bc ?_ ?_|refine gc ?_ ?_|refine pc ?_ ?_)<;>intro _|refine And.intro ?_ ?_)|simp -implicitDefEqProofs(maxSteps:=2000000)(disch:=first|assumption|omega)[*, ])
   all_goals exact Ends.eqat rfl (by simp) hv1
 ·have hnr : ¬ ((7 : Int) < 0 ∨ 8 ≤ (7 : Int)) := by omega
  repeat' (first|(with_reducible first|refine bt ?_|refine bf ?_|(first|refine bc ?_ ?_|refine gc ?_ ?_|refine pc ?_ ?_)<;>intro _|refine And.intro ?_ ?_)|simp -implicitDefEqProofs(maxSteps:=2000000)(disch:=first|assumption|omega)[*, ])
  refine aW_for0 (β := List Nat) false c.bufs.length (fun k v' => v <+: v' ∧ ∀ k', k' < k → holdsC p c 7 (k' : Nat) = true) (fun k v' => [(23, .int .i64 k), (24, .any), (25, .any), (9, .any), (26, .any), (27, .any), (28, .any), (29, .any), (30, .any), (31, .any), (6, .any), (7, .any), (32, .any)]) (fun _ v' => v') ⟨v, ⟨List.prefix_refl _, by simp⟩, by (refine Fits.of ?_ (Off.refl _ _); simp [upd_apply, upds_cons]), rfl⟩ ?_
  rintro k v1 hk ⟨hv1, hI⟩
  by_cases hlt : k < c.bufs.length
  ·have hcl := fun (X : AObj) => (show Ret Tryz.prog 75 [.int .i64 k, .ptr (s.length + 2 + 1) 0, .ptr (s.length + 2) 0] (s ++ [AObj.cells [row p.funcs, .int .i64 p.mutexes, row p.conds, row p.semas, row p.chans, row p.choices, .int .i64 p.threads], AObj.cells [.int .i64 c.now, row c.threads, row c.owners, row c.counts, row c.bufs, row c.lockq, row c.waitq, row c.downq, row c.sendq, row c.recvq], AObj.cells [row p.funcs, .int .i64 p.mutexes, row p.conds, row p.semas, row p.chans, row p.choices, .int .i64 p.threads], AObj.cells [.int .i64 c.now, row c.threads, row c.owners, row c.counts, row c.bufs, row c.lockq, row c.waitq, row c.downq, row c.sendq, row c.recvq], Z, AObj.cells [row p.funcs, .int .i64 p.mutexes, row p.conds, row p.semas, row p.chans, row p.choices, .int .i64 p.threads, .int .i64 c.now, row c.threads, row c.owners, row c.counts, row c.bufs, row c.lockq, row c.waitq, row c.downq, row c.sendq, row c.recvq], .cells [.int .i64 c.threads.length], X]) (.bool (holdsC p c 7 (k : Nat))) from rule7_c h (by rw [Nat.add_assoc, get_app]; rfl) (by rw [get_app]; rfl) (by omega) (by omega))
   cases hh : holdsC p c 7 (k : Nat)
   ·rw [rule_at hnr (by simpa [placesC] using hlt) hI hh]
    rw [hh] at hcl
    repeat' (first|(with_reducible first|refine bt ?_|refine bf ?_|(first|refine bc ?_ ?_|refine gc ?_ ?_|refine pc ?_ ?_)<;>intro _|refine And.intro ?_ ?_|refine callR (hcl _) (fun v2 hv2 => ?_))|simp -implicitDefEqProofs(maxSteps:=2000000)(disch:=first|assumption|omega)[*, ])
    all_goals exact Ends.eqat rfl (by simp) (hv1.trans hv2)
   ·have hI2 : ∀ k', k' < k + 1 → holdsC p c 7 (k' : Nat) = true := fun k' hk' => by
     by_cases e : k' = k
     ·subst e; exact hh
     ·exact hI k' (by omega)
    rw [hh] at hcl
    repeat' (first|(with_reducible first|refine bt ?_|refine bf ?_|(first|refine bc ?_ ?_|refine gc ?_ ?_|refine pc ?_ ?_)<;>intro _|refine And.intro ?_ ?_|refine callR (hcl _) (fun v2 hv2 => ?_))|simp -implicitDefEqProofs(maxSteps:=2000000)(disch:=first|assumption|omega)[*, ])
    all_goals exact ⟨hlt, v2, ⟨hv1.trans hv2, hI2⟩, by (refine Fits.of ?_ ?_; rotate_left; (repeat (first | with_reducible exact Off.refl _ _ | refine Off.upd rfl ?_ | refine Off.updO rfl ?_ | refine Off.upds rfl ?_)); simp [upd_apply, upds_cons]), rfl, rfl⟩
  ·have hke : k = c.bufs.length := by omega
   subst hke
   rw [rule_all hnr (fun k' hk' => hI k' (by simpa [placesC] using hk'))]
   repeat' (first|(with_reducible first|refine bt ?_|refine bf ?_|(first|refine bc ?_ ?_|refine gc ?_ ?_|refine pc ?_ ?_)<;>intro _|refine And.intro ?_ ?_)|simp -implicitDefEqProofs(maxSteps:=2000000)(disch:=first|assumption|omega)[*, ])
   all_goals exact Ends.eqat rfl (by simp) hv1
end Go.Hb
