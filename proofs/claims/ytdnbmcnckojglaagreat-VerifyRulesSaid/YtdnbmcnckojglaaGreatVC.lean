/-
  A layer for reasoning about the program's calls, and contracts of its functions (VC). CONDITIONS: none; each theorem bears its own.
-/
import Derived.Test.YtdnbmcnckojglaaGreatVB
set_option linter.unusedVariables false
set_option linter.unusedSimpArgs false
section
namespace Go.Hb
open Go Go.Proofs Go.RowKit
set_option maxRecDepth 100000
set_option maxHeartbeats 800000
attribute [-simp] aC aL aOper aThen aInBlock aIf aPlan aAppend aLen aIndexAddr aSlice aCells aBounds lBr aq initT aev aAppendOwn aAppendNil aAppendNew aAppendRef LV.cells LV.cellsOk getElem?_pos getElem?_neg
@[simp] def P37 : Nat → Plan
 | 23 => (.qs [0, 1, 2, 3, 4, 5, 6, 7, 8, 9, 10, 11, 12, 13, 14, 15, 16, 17, 18, 19, 20, 21] .nil)
 | _ => .nil
theorem holds18_p {p : Prog} {c : Cor} (h : ShD p c) {r i : Int} (hr0 : 0 ≤ r) (hr : r < 8) (h0 : 0 ≤ i) (h1 : i < placesC c r) : PureC Tryz.prog 37 [.agg [row p.funcs, .int .i64 p.mutexes, row p.conds, row p.semas, row p.chans, row p.choices, .int .i64 p.threads], .agg [.int .i64 c.now, row c.threads, row c.owners, row c.counts, row c.bufs, row c.lockq, row c.waitq, row c.downq, row c.sendq, row c.recvq], .int .i64 r, .int .i64 i] (.bool (holdsC p c r i)) := by
 have hcase : r = 0 ∨ r = 1 ∨ r = 2 ∨ r = 3 ∨ r = 4 ∨ r = 5 ∨ r = 6 ∨ r = 7 := by omega
 have hl := h.sh.len
 refine .of fun s v => ?_
 rcases hcase with e | e | e | e | e | e | e | e
 all_goals subst e
 ·have h1' : i < c.threads.length := by simpa [placesC] using h1
  refine aCalls_go Tryz.func37 rfl (by decide) Tryz.ntmps37 (by simp) false ?_
  have hres : Tryz.f37.results = #[.tmp 8] := rfl
  repeat' (first|(with_reducible first|refine bt ?_|refine bf ?_|(first|refine bc ?_ ?_|refine gc ?_ ?_|refine pc ?_ ?_)<;>intro _|(refine dr P37 mixed ?_ ?_ ?_;kernel_rfl;kernel_rfl)|refine And.intro ?_ ?_)|simp -implicitDefEqProofs(maxSteps:=2000000)(disch:=first|assumption|omega)[*, ])
  all_goals exact Ends.eqat (by simp [holdsC, at', *] <;> first | rfl | (rw [decide_eq_decide])) (by simp) (List.prefix_refl _)
 ·have h1' : i < c.threads.length := by simpa [placesC] using h1
  refine aCalls_go Tryz.func37 rfl (by decide) Tryz.ntmps37 (by simp) false ?_
  have hres : Tryz.f37.results = #[.tmp 8] := rfl
  repeat' (first|(with_reducible first|refine bt ?_|refine bf ?_|(first|refine bc ?_ ?_|refine gc ?_ ?_|refine pc ?_ ?_)<;>intro _|(refine dr P37 mixed ?_ ?_ ?_;kernel_rfl;kernel_rfl)|refine And.intro ?_ ?_)|simp -implicitDefEqProofs(maxSteps:=2000000)(disch:=first|assumption|omega)[*, ])
  all_goals exact Ends.eqat (by simp [holdsC, at', *] <;> first | rfl | (rw [decide_eq_decide])) (by simp) (List.prefix_refl _)
 ·have h1' : i < c.threads.length := by simpa [placesC] using h1
  have hv : holdsC p c 2 i = (!decide ((nth c.threads i.toNat).state ∈ [(2 : Int)]) || (decide (0 ≤ (nth c.threads i.toNat).on) && decide ((nth c.threads i.toNat).on < c.threads.length) && decide ((nth c.threads i.toNat).on ≠ i) && !decide ((nth c.threads (nth c.threads i.toNat).on.toNat).state ∈ [(9 : Int)]))) := rfl
  by_cases e2 : (nth c.threads i.toNat).state = 2
  ·by_cases a0 : (nth c.threads i.toNat).on < 0
   ·rw [hv, decide_eq_false (show ¬ 0 ≤ (nth c.threads i.toNat).on by omega)]
    clear hv
    refine aCalls_go Tryz.func37 rfl (by decide) Tryz.ntmps37 (by simp) false ?_
    have hres : Tryz.f37.results = #[.tmp 8] := rfl
    repeat' (first|(with_reducible first|refine bt ?_|refine bf ?_|(first|refine bc ?_ ?_|refine gc ?_ ?_|refine pc ?_ ?_)<;>intro _|(refine dr P37 mixed ?_ ?_ ?_;kernel_rfl;kernel_rfl)|refine And.intro ?_ ?_)|simp -implicitDefEqProofs(maxSteps:=2000000)(disch:=first|assumption|omega)[*, ])
    all_goals exact Ends.eqat (by simp [*]) (by simp) (List.prefix_refl _)
   ·by_cases a1 : (c.threads.length : Int) ≤ (nth c.threads i.toNat).on
    ·rw [hv, decide_eq_false (show ¬ (nth c.threads i.toNat).on < c.threads.length by omega)]
     clear hv
     refine aCalls_go Tryz.func37 rfl (by decide) Tryz.ntmps37 (by simp) false ?_
     have hres : Tryz.f37.results = #[.tmp 8] := rfl
     repeat' (first|(with_reducible first|refine bt ?_|refine bf ?_|(first|refine bc ?_ ?_|refine gc ?_ ?_|refine pc ?_ ?_)<;>intro _|(refine dr P37 mixed ?_ ?_ ?_;kernel_rfl;kernel_rfl)|refine And.intro ?_ ?_)|simp -implicitDefEqProofs(maxSteps:=2000000)(disch:=first|assumption|omega)[*, ])
     all_goals exact Ends.eqat (by simp [*]) (by simp) (List.prefix_refl _)
    ·have b0 : 0 ≤ (nth c.threads i.toNat).on := by omega
     have b1 : (nth c.threads i.toNat).on < c.threads.length := by omega
     have hx2 := ix_in b0 b1
     by_cases a2 : (nth c.threads i.toNat).on = i
     ·rw [hv, decide_eq_false (show ¬ (nth c.threads i.toNat).on ≠ i by omega)]
      have e2' : (nth c.threads i.toNat).state ∈ [(2 : Int)] := by simp [e2]
      rw [decide_eq_true e2', decide_eq_true b0, decide_eq_true b1]
      clear hv e2'
      refine aCalls_go Tryz.func37 rfl (by decide) Tryz.ntmps37 (by simp) false ?_
      have hres : Tryz.f37.results = #[.tmp 8] := rfl
      repeat' (first|(with_reducible first|refine bt ?_|refine bf ?_|(first|refine bc ?_ ?_|refine gc ?_ ?_|refine pc ?_ ?_)<;>intro _|(refine dr P37 mixed ?_ ?_ ?_;kernel_rfl;kernel_rfl)|refine And.intro ?_ ?_)|simp -implicitDefEqProofs(maxSteps:=2000000)(disch:=first|assumption|omega)[*, ])
      all_goals exact Ends.eqat (by simp) (by simp) (List.prefix_refl _)
     ·rw [hv, decide_eq_true (show (nth c.threads i.toNat).on ≠ i by omega)]
      have e2' : (nth c.threads i.toNat).state ∈ [(2 : Int)] := by simp [e2]
      rw [decide_eq_true e2', decide_eq_true b0, decide_eq_true b1]
      clear hv e2'
      refine aCalls_go Tryz.func37 rfl (by decide) Tryz.ntmps37 (by simp) false ?_
      have hres : Tryz.f37.results = #[.tmp 8] := rfl
      repeat' (first|(with_reducible first|refine bt ?_|refine bf ?_|(first|refine bc ?_ ?_|refine gc ?_ ?_|refine pc ?_ ?_)<;>intro _|(refine dr P37 mixed ?_ ?_ ?_;kernel_rfl;kernel_rfl)|refine And.intro ?_ ?_)|simp -implicitDefEqProofs(maxSteps:=2000000)(disch:=first|assumption|omega)[*, ])
      all_goals exact Ends.eqat (by simp [*]) (by simp) (List.prefix_refl _)
  ·have e2' : ¬ (nth c.threads i.toNat).state ∈ [(2 : Int)] := by simpa using e2
   rw [hv, decide_eq_false e2']
   clear hv e2'
   refine aCalls_go Tryz.func37 rfl (by decide) Tryz.ntmps37 (by simp) false ?_
   have hres : Tryz.f37.results = #[.tmp 8] := rfl
   repeat' (first|(with_reducible first|refine bt ?_|refine bf ?_|(first|refine bc ?_ ?_|refine gc ?_ ?_|refine pc ?_ ?_)<;>intro _|(refine dr P37 mixed ?_ ?_ ?_;kernel_rfl;kernel_rfl)|refine And.intro ?_ ?_)|simp -implicitDefEqProofs(maxSteps:=2000000)(disch:=first|assumption|omega)[*, ])
   all_goals exact Ends.eqat (by simp) (by simp) (List.prefix_refl _)
 ·have h1' : i < c.threads.length := by simpa [placesC] using h1
  have hon := on18_p (p := p) h0 h1'
  have hv : holdsC p c 3 i = on18 p (nth c.threads i.toNat).state (nth c.threads i.toNat).on := onC_18 h _
  rw [hv]
  generalize on18 p (nth c.threads i.toNat).state (nth c.threads i.toNat).on = b at *
  refine aCalls_go Tryz.func37 rfl (by decide) Tryz.ntmps37 (by simp) false ?_
  have hres : Tryz.f37.results = #[.tmp 8] := rfl
  repeat' (first|(with_reducible first|refine bt ?_|refine bf ?_|(first|refine bc ?_ ?_|refine gc ?_ ?_|refine pc ?_ ?_)<;>intro _|(refine dr P37 mixed ?_ ?_ ?_;kernel_rfl;kernel_rfl)|refine And.intro ?_ ?_|refine callE hon ?_)|simp -implicitDefEqProofs(maxSteps:=2000000)(disch:=first|assumption|omega)[*, ])
  all_goals exact Ends.eqat rfl (by simp) (List.prefix_refl _)
 ·have h1' : i < c.threads.length := by simpa [placesC] using h1
  have hst := stands18_p h.sh h0 h1'
  have hv : holdsC p c 4 i = stands18 p c (nth c.threads i.toNat).state (nth c.threads i.toNat).on i := stands_18 h _
  rw [hv]
  generalize stands18 p c (nth c.threads i.toNat).state (nth c.threads i.toNat).on i = b at *
  refine aCalls_go Tryz.func37 rfl (by decide) Tryz.ntmps37 (by simp) false ?_
  have hres : Tryz.f37.results = #[.tmp 8] := rfl
  repeat' (first|(with_reducible first|refine bt ?_|refine bf ?_|(first|refine bc ?_ ?_|refine gc ?_ ?_|refine pc ?_ ?_)<;>intro _|(refine dr P37 mixed ?_ ?_ ?_;kernel_rfl;kernel_rfl)|refine And.intro ?_ ?_|refine callC hst (fun v2 hv2 => ?_))|simp -implicitDefEqProofs(maxSteps:=2000000)(disch:=first|assumption|omega)[*, ])
  all_goals exact Ends.eqat rfl (by simp) hv2
 ·have h1' : i < c.owners.length := by simpa [placesC] using h1
  have h2 : i < c.lockq.length := by rw [hl.lockq, ← hl.owners]; exact h1'
  have ho := h.own i.toNat (by omega)
  have hv : holdsC p c 5 i = (decide ((nth c.lockq i.toNat).length = 0) || decide (nth c.owners i.toNat ≠ -1)) := rfl
  rw [show decide (nth c.owners i.toNat ≠ -1) = decide (0 ≤ nth c.owners i.toNat) by rw [decide_eq_decide]; omega] at hv
  rw [hv]
  clear hv ho
  refine aCalls_go Tryz.func37 rfl (by decide) Tryz.ntmps37 (by simp) false ?_
  have hres : Tryz.f37.results = #[.tmp 8] := rfl
  repeat' (first|(with_reducible first|refine bt ?_|refine bf ?_|(first|refine bc ?_ ?_|refine gc ?_ ?_|refine pc ?_ ?_)<;>intro _|(refine dr P37 mixed ?_ ?_ ?_;kernel_rfl;kernel_rfl)|refine And.intro ?_ ?_)|simp -implicitDefEqProofs(maxSteps:=2000000)(disch:=first|assumption|omega)[*, ])
  all_goals exact Ends.eqat (by simp [*] <;> first | rfl | (rw [decide_eq_decide])) (by simp) (List.prefix_refl _)
 ·have h1' : i < c.counts.length := by simpa [placesC] using h1
  have h2 : i < c.downq.length := by rw [hl.downq, ← hl.counts]; exact h1'
  refine aCalls_go Tryz.func37 rfl (by decide) Tryz.ntmps37 (by simp) false ?_
  have hres : Tryz.f37.results = #[.tmp 8] := rfl
  repeat' (first|(with_reducible first|refine bt ?_|refine bf ?_|(first|refine bc ?_ ?_|refine gc ?_ ?_|refine pc ?_ ?_)<;>intro _|(refine dr P37 mixed ?_ ?_ ?_;kernel_rfl;kernel_rfl)|refine And.intro ?_ ?_)|simp -implicitDefEqProofs(maxSteps:=2000000)(disch:=first|assumption|omega)[*, ])
  all_goals exact Ends.eqat (by simp [holdsC, at', *] <;> first | rfl | (rw [decide_eq_decide])) (by simp) (List.prefix_refl _)
 ·have h1' : i < c.bufs.length := by simpa [placesC] using h1
  have h2 : i < c.sendq.length := by rw [hl.sendq, ← hl.bufs]; exact h1'
  have h3 : i < c.recvq.length := by rw [hl.recvq, ← hl.bufs]; exact h1'
  have h4 : i < p.chans.length := by rw [← hl.bufs]; exact h1'
  clear hl
  have hv0 : holdsC p c 7 i = ((decide ((nth c.recvq i.toNat).length = 0) || decide ((nth c.bufs i.toNat).length + (nth c.sendq i.toNat).length = 0)) && (decide ((nth c.sendq i.toNat).length = 0) || decide (((nth c.bufs i.toNat).length : Int) = nth p.chans i.toNat))) := rfl
  have hv : holdsC p c 7 i = (if 0 < (nth c.recvq i.toNat).length ∧ (0 < (nth c.bufs i.toNat).length ∨ 0 < (nth c.sendq i.toNat).length) then false else decide ((nth c.sendq i.toNat).length = 0) || decide (((nth c.bufs i.toNat).length : Int) = nth p.chans i.toNat)) := by
   rw [hv0]
   by_cases hc : 0 < (nth c.recvq i.toNat).length ∧ (0 < (nth c.bufs i.toNat).length ∨ 0 < (nth c.sendq i.toNat).length)
   ·rw [if_pos hc]
    have a : ¬ (nth c.recvq i.toNat).length = 0 := by omega
    have b : ¬ (nth c.bufs i.toNat).length + (nth c.sendq i.toNat).length = 0 := by omega
    rw [decide_eq_false a, decide_eq_false b]; rfl
   ·rw [if_neg hc]
    have : (nth c.recvq i.toNat).length = 0 ∨ (nth c.bufs i.toNat).length + (nth c.sendq i.toNat).length = 0 := by omega
    rcases this with a | a <;> simp [a]
  rw [hv]
  clear hv hv0
  have x1 := ix_in h0 h1'
  have x2 := ix_in h0 h2
  have x3 := ix_in h0 h3
  have x4 := ix_in h0 h4
  clear h0 h1 h1' h2 h3 h4
  generalize nth c.recvq i.toNat = a1 at *
  generalize nth c.bufs i.toNat = a2 at *
  generalize nth c.sendq i.toNat = a3 at *
  generalize nth p.chans i.toNat = a4 at *
  by_cases g1 : 0 < a1.length
  ·by_cases g2 : 0 < a2.length
   ·rw [if_pos ⟨g1, .inl g2⟩]
    refine aCalls_go Tryz.func37 rfl (by decide) Tryz.ntmps37 (by simp) false ?_
    have hres : Tryz.f37.results = #[.tmp 8] := rfl
    repeat' (first|(with_reducible first|refine bt ?_|refine bf ?_|(first|refine bc ?_ ?_|refine gc ?_ ?_|refine pc ?_ ?_)<;>intro _|(refine dr P37 mixed ?_ ?_ ?_;kernel_rfl;kernel_rfl)|refine And.intro ?_ ?_)|simp -implicitDefEqProofs(maxSteps:=2000000)(disch:=first|assumption|omega)[*, ])
    all_goals exact Ends.eqat rfl (by simp) (List.prefix_refl _)
   ·by_cases g3 : 0 < a3.length
    ·rw [if_pos ⟨g1, .inr g3⟩]
     refine aCalls_go Tryz.func37 rfl (by decide) Tryz.ntmps37 (by simp) false ?_
     have hres : Tryz.f37.results = #[.tmp 8] := rfl
     repeat' (first|(with_reducible first|refine bt ?_|refine bf ?_|(first|refine bc ?_ ?_|refine gc ?_ ?_|refine pc ?_ ?_)<;>intro _|(refine dr P37 mixed ?_ ?_ ?_;kernel_rfl;kernel_rfl)|refine And.intro ?_ ?_)|simp -implicitDefEqProofs(maxSteps:=2000000)(disch:=first|assumption|omega)[*, ])
     all_goals exact Ends.eqat rfl (by simp) (List.prefix_refl _)
    ·rw [if_neg (by omega)]
     obtain rfl : a3 = [] := List.eq_nil_of_length_eq_zero (by omega)
     refine aCalls_go Tryz.func37 rfl (by decide) Tryz.ntmps37 (by simp) false ?_
     have hres : Tryz.f37.results = #[.tmp 8] := rfl
     repeat' (first|(with_reducible first|refine bt ?_|refine bf ?_|(first|refine bc ?_ ?_|refine gc ?_ ?_|refine pc ?_ ?_)<;>intro _|(refine dr P37 mixed ?_ ?_ ?_;kernel_rfl;kernel_rfl)|refine And.intro ?_ ?_)|simp -implicitDefEqProofs(maxSteps:=2000000)(disch:=first|assumption|omega)[*, ])
     all_goals exact Ends.eqat (by simp) (by simp) (List.prefix_refl _)
  ·rw [if_neg (fun a => g1 a.1)]
   by_cases g3 : a3.length = 0
   ·obtain rfl : a3 = [] := List.eq_nil_of_length_eq_zero g3
    refine aCalls_go Tryz.func37 rfl (by decide) Tryz.ntmps37 (by simp) false ?_
    have hres : Tryz.f37.results = #[.tmp 8] := rfl
    repeat' (first|(with_reducible first|refine bt ?_|refine bf ?_|(first|refine bc ?_ ?_|refine gc ?_ ?_|refine pc ?_ ?_)<;>intro _|(refine dr P37 mixed ?_ ?_ ?_;kernel_rfl;kernel_rfl)|refine And.intro ?_ ?_)|simp -implicitDefEqProofs(maxSteps:=2000000)(disch:=first|assumption|omega)[*, ])
    all_goals exact Ends.eqat (by simp) (by simp) (List.prefix_refl _)
   ·rw [decide_eq_false g3, Bool.false_or]
    by_cases g4 : (a2.length : Int) = a4
    ·subst g4
     refine aCalls_go Tryz.func37 rfl (by decide) Tryz.ntmps37 (by simp) false ?_
     have hres : Tryz.f37.results = #[.tmp 8] := rfl
     repeat' (first|(with_reducible first|refine bt ?_|refine bf ?_|(first|refine bc ?_ ?_|refine gc ?_ ?_|refine pc ?_ ?_)<;>intro _|(refine dr P37 mixed ?_ ?_ ?_;kernel_rfl;kernel_rfl)|refine And.intro ?_ ?_)|simp -implicitDefEqProofs(maxSteps:=2000000)(disch:=first|assumption|omega)[*, ])
     all_goals exact Ends.eqat (by simp) (by simp) (List.prefix_refl _)
    ·rw [decide_eq_false g4]
     refine aCalls_go Tryz.func37 rfl (by decide) Tryz.ntmps37 (by simp) false ?_
     have hres : Tryz.f37.results = #[.tmp 8] := rfl
     repeat' (first|(with_reducible first|refine bt ?_|refine bf ?_|(first|refine bc ?_ ?_|refine gc ?_ ?_|refine pc ?_ ?_)<;>intro _|(refine dr P37 mixed ?_ ?_ ?_;kernel_rfl;kernel_rfl)|refine And.intro ?_ ?_)|simp -implicitDefEqProofs(maxSteps:=2000000)(disch:=first|assumption|omega)[*, ])
     all_goals exact Ends.eqat (by simp) (by simp) (List.prefix_refl _)
theorem rule18_p {p : Prog} {c : Cor} (h : ShD p c) (r : Int) : PureC Tryz.prog 11 [.agg [row p.funcs, .int .i64 p.mutexes, row p.conds, row p.semas, row p.chans, row p.choices, .int .i64 p.threads], .agg [.int .i64 c.now, row c.threads, row c.owners, row c.counts, row c.bufs, row c.lockq, row c.waitq, row c.downq, row c.sendq, row c.recvq], .int .i64 r] (.tup [.int .i64 (ruleC p c r).1, .bool (ruleC p c r).2]) := by
 refine .of fun s v => ?_
 by_cases hr : r < 0 ∨ 8 ≤ r
 ·rw [show ruleC p c r = (-1, true) by unfold ruleC; rw [if_pos hr]]
  by_cases h0 : r < 0
  ·refine aCalls_go Tryz.func11 rfl (by decide) Tryz.ntmps11 (by simp) false ?_
   have hres : Tryz.f11.results = #[.tmp 6, .tmp 7] := rfl
   repeat' (first|(with_reducible first|refine bt ?_|refine bf ?_|(first|refine bc ?_ ?_|refine gc ?_ ?_|refine pc ?_ ?_)<;>intro _|refine And.intro ?_ ?_)|simp -implicitDefEqProofs(maxSteps:=2000000)(disch:=first|assumption|omega)[*, ])
   all_goals exact Ends.eqat rfl (by simp) (List.prefix_refl _)
  ·have h8 : 7 < r := by omega
   refine aCalls_go Tryz.func11 rfl (by decide) Tryz.ntmps11 (by simp) false ?_
   have hres : Tryz.f11.results = #[.tmp 6, .tmp 7] := rfl
   repeat' (first|(with_reducible first|refine bt ?_|refine bf ?_|(first|refine bc ?_ ?_|refine gc ?_ ?_|refine pc ?_ ?_)<;>intro _|refine And.intro ?_ ?_)|simp -implicitDefEqProofs(maxSteps:=2000000)(disch:=first|assumption|omega)[*, ])
   all_goals exact Ends.eqat rfl (by simp) (List.prefix_refl _)
 have r0 : ¬ r < 0 := by omega
 have r8 : ¬ 7 < r := by omega
 have n1 := h.sh.b.threads; have n2 := h.sh.b.owners; have n3 := h.sh.b.counts; have n4 := h.sh.b.bufs.1
 obtain ⟨N, hN⟩ : ∃ N, placesC c r = N := ⟨_, rfl⟩
 have hNb : N ≤ 1000 := by rw [← hN]; unfold placesC; split; omega; split; omega; split <;> omega
 obtain ⟨H, hH⟩ : ∃ H : Nat → Bool, ∀ k : Nat, holdsC p c r k = H k := ⟨_, fun _ => rfl⟩
 have hh : ∀ k : Nat, k < N → PureC Tryz.prog 37 [.agg [row p.funcs, .int .i64 p.mutexes, row p.conds, row p.semas, row p.chans, row p.choices, .int .i64 p.threads], .agg [.int .i64 c.now, row c.threads, row c.owners, row c.counts, row c.bufs, row c.lockq, row c.waitq, row c.downq, row c.sendq, row c.recvq], .int .i64 r, .int .i64 (k : Int)] (.bool (H k)) := fun k hk => by
  rw [← hH]; exact holds18_p h (by omega) (by omega) (by omega) (by rw [hN]; omega)
 have hat : ∀ {k : Nat}, k < N → (∀ k', k' < k → H k' = true) → H k = false → ruleC p c r = ((k : Int), false) := fun a b d => rule_at hr (by rw [hN]; exact a) (fun k' h' => by rw [hH]; exact b k' h') (by rw [hH]; exact d)
 have hal : (∀ k', k' < N → H k' = true) → ruleC p c r = (-1, true) := fun a => rule_all hr (fun k' h' => by rw [hH]; exact a k' (by rw [hN] at h'; exact h'))
 clear hH
 have hcase : (r ≠ 5 ∧ r ≠ 6 ∧ r ≠ 7 ∧ c.threads.length = N) ∨ (r = 5 ∧ c.owners.length = N) ∨ (r = 6 ∧ c.counts.length = N) ∨ (r = 7 ∧ c.bufs.length = N) := by
  unfold placesC at hN
  split at hN
  ·omega
  ·split at hN
   ·omega
   ·split at hN <;> omega
 clear hN n1 n2 n3 n4 hr
 refine aCalls_go Tryz.func11 rfl (by decide) Tryz.ntmps11 (by simp) false ?_
 have hres : Tryz.f11.results = #[.tmp 6, .tmp 7] := rfl
 rcases hcase with ⟨e5, e6, e7, e⟩ | ⟨rfl, e⟩ | ⟨rfl, e⟩ | ⟨rfl, e⟩
 all_goals
  repeat' (first|(with_reducible first|refine bt ?_|refine bf ?_|(first|refine bc ?_ ?_|refine gc ?_ ?_|refine pc ?_ ?_)<;>intro _|refine And.intro ?_ ?_)|simp -implicitDefEqProofs(maxSteps:=2000000)(disch:=first|assumption|omega)[*, ])
  clear e
  try clear e5 e6 e7
  refine aW_for0 (β := List Nat) false N (fun k v' => v <+: v' ∧ ∀ k', k' < k → H k' = true) (fun k v' => [(9, .int .i64 k), (35, .any), (36, .any), (37, .any), (40, .any), (41, .any), (42, .any), (43, .any), (44, .any), (10, .any), (45, .any), (46, .any), (47, .any), (6, .any), (7, .any), (38, .any), (39, .any)]) (fun _ v' => v') ⟨v, ⟨List.prefix_refl _, by simp⟩, by (refine Fits.of ?_ (Off.refl _ _); simp [upd_apply, upds_cons]), rfl⟩ ?_
  rintro k v1 hk ⟨hv1, hI⟩
  by_cases hlt : k < N
  ·have hk2 := hh k hlt
   have hfa := hat hlt hI
   have hgo : H k = true → ∀ k', k' < k + 1 → H k' = true := fun hy k' hk' => by
    by_cases e : k' = k
    ·subst e; exact hy
    ·exact hI k' (by omega)
   clear hI hh hat hal
   have hlt' : (k : Int) < N := by omega
   generalize H k = b at *
   cases b
   ·rw [hfa rfl]
    clear hfa hgo
    repeat' (first|(with_reducible first|refine bt ?_|refine bf ?_|(first|refine bc ?_ ?_|refine gc ?_ ?_|refine pc ?_ ?_)<;>intro _|refine And.intro ?_ ?_|refine callC hk2 (fun v2 hv2 => ?_))|simp -implicitDefEqProofs(maxSteps:=2000000)(disch:=first|assumption|omega)[*, ])
    all_goals exact Ends.eqat rfl (by simp) (hv1.trans hv2)
   ·have hg := hgo rfl
    clear hfa hgo
    repeat' (first|(with_reducible first|refine bt ?_|refine bf ?_|(first|refine bc ?_ ?_|refine gc ?_ ?_|refine pc ?_ ?_)<;>intro _|refine And.intro ?_ ?_|refine callC hk2 (fun v2 hv2 => ?_))|simp -implicitDefEqProofs(maxSteps:=2000000)(disch:=first|assumption|omega)[*, ])
    all_goals exact ⟨hlt, v2, ⟨hv1.trans hv2, hg⟩, by (refine Fits.of ?_ ?_; rotate_left; (repeat (first | with_reducible exact Off.refl _ _ | refine Off.upd rfl ?_ | refine Off.updO rfl ?_ | refine Off.upds rfl ?_)); simp [upd_apply, upds_cons]), rfl, rfl⟩
  ·have hke : k = N := by omega
   subst hke
   rw [hal hI]
   clear hI hh hat hal
   repeat' (first|(with_reducible first|refine bt ?_|refine bf ?_|(first|refine bc ?_ ?_|refine gc ?_ ?_|refine pc ?_ ?_)<;>intro _|refine And.intro ?_ ?_)|simp -implicitDefEqProofs(maxSteps:=2000000)(disch:=first|assumption|omega)[*, ])
   all_goals exact Ends.eqat rfl (by simp) hv1
theorem first18_p {p : Prog} {c : Cor} (h : ShD p c) : PureC Tryz.prog 13 [.agg [row p.funcs, .int .i64 p.mutexes, row p.conds, row p.semas, row p.chans, row p.choices, .int .i64 p.threads], .agg [.int .i64 c.now, row c.threads, row c.owners, row c.counts, row c.bufs, row c.lockq, row c.waitq, row c.downq, row c.sendq, row c.recvq]] (.tup [.int .i64 (firstC p c).1, .int .i64 (firstC p c).2]) := by
 refine .of fun s v => ?_
 refine aCalls_go Tryz.func13 rfl (by decide) Tryz.ntmps13 (by simp) false ?_
 have hres : Tryz.f13.results = #[.tmp 4, .tmp 5] := rfl
 repeat' (first|(with_reducible first|refine bt ?_|refine bf ?_|(first|refine bc ?_ ?_|refine gc ?_ ?_|refine pc ?_ ?_)<;>intro _)|simp -implicitDefEqProofs(maxSteps:=2000000)(disch:=first|assumption|omega)[*, ])
 refine aW_for0 (β := List Nat) false 8 (fun k v' => v <+: v' ∧ ∀ k', k' < k → (ruleC p c (k' : Nat)).2 = true) (fun k v' => [(6, .int .i64 k), (9, .any), (10, .any), (14, .any), (15, .any), (16, .any), (17, .any), (13, .any), (18, .any), (19, .any), (7, .any), (8, .any), (20, .any), (21, .any), (22, .any), (23, .any), (4, .any), (5, .any), (11, .any), (12, .any)]) (fun _ v' => v') ⟨v, ⟨List.prefix_refl _, by simp⟩, by (refine Fits.of ?_ (Off.refl _ _); simp [upd_apply, upds_cons]), rfl⟩ ?_
 rintro k v1 hk ⟨hv1, hI⟩
 by_cases hlt : k < 8
 ·have hru := rule18_p h (k : Int)
  have hi2 : (ruleC p c (k : Nat)).2 = true → ∀ k', k' < k + 1 → (ruleC p c (k' : Nat)).2 = true := fun hh k' hk' => by
   by_cases e : k' = k
   ·subst e; exact hh
   ·exact hI k' (by omega)
  have hfa := fun hh => first_at (p := p) (c := c) hlt hI hh
  generalize ruleC p c (k : Nat) = r at *
  obtain ⟨i, b⟩ := r
  simp only at hru hi2 hfa
  have hlt' : (k : Int) < 8 := by omega
  cases b
  ·rw [hfa rfl]
   repeat' (first|(with_reducible first|refine bt ?_|refine bf ?_|(first|refine bc ?_ ?_|refine gc ?_ ?_|refine pc ?_ ?_)<;>intro _|refine callC hru (fun v2 hv2 => ?_))|simp -implicitDefEqProofs(maxSteps:=2000000)(disch:=first|assumption|omega)[*, ])
   all_goals exact Ends.eqat rfl (by simp) (hv1.trans hv2)
  ·have hI2 := hi2 rfl
   repeat' (first|(with_reducible first|refine bt ?_|refine bf ?_|(first|refine bc ?_ ?_|refine gc ?_ ?_|refine pc ?_ ?_)<;>intro _|refine callC hru (fun v2 hv2 => ?_))|simp -implicitDefEqProofs(maxSteps:=2000000)(disch:=first|assumption|omega)[*, ])
   all_goals exact ⟨hlt, v2, ⟨hv1.trans hv2, hI2⟩, by (refine Fits.of ?_ ?_; rotate_left; (repeat (first | with_reducible exact Off.refl _ _ | refine Off.upd rfl ?_ | refine Off.updO rfl ?_ | refine Off.upds rfl ?_)); simp [upd_apply, upds_cons]), rfl, rfl⟩
 ·have hke : k = 8 := by omega
  subst hke
  rw [first_all hI]
  repeat' (first|(with_reducible first|refine bt ?_|refine bf ?_|(first|refine bc ?_ ?_|refine gc ?_ ?_|refine pc ?_ ?_)<;>intro _)|simp -implicitDefEqProofs(maxSteps:=2000000)(disch:=first|assumption|omega)[*, ])
  all_goals exact Ends.eqat rfl (by simp) hv1
end Go.Hb
end

section
namespace Go.Hb
open Go Go.Proofs Go.RowKit
set_option maxRecDepth 100000
set_option maxHeartbeats 800000
attribute [-simp] aC aL aOper aThen aInBlock aIf aPlan aAppend aLen aIndexAddr aSlice aCells aBounds lBr aq initT aev aAppendOwn aAppendNil aAppendNew aAppendRef LV.cells LV.cellsOk getElem?_pos getElem?_neg
def nm18 (n : Int) : ByteArray := if n = 0 then ⟨#[114, 101, 115, 116]⟩ else if n = 1 then ⟨#[115, 108, 101, 101, 112]⟩ else if n = 2 then ⟨#[106, 111, 105, 110]⟩ else if n = 3 then ⟨#[111, 110]⟩ else if n = 4 then ⟨#[114, 111, 119, 115]⟩ else if n = 5 then ⟨#[109, 117, 116, 101, 120]⟩ else if n = 6 then ⟨#[115, 101, 109, 97]⟩ else if n = 7 then ⟨#[99, 104, 97, 110]⟩ else ⟨#[]⟩
theorem name18_p (n : Int) : PureE Tryz.prog 16 [.int .i64 n] (.str (nm18 n)) := by
 refine .of fun s v => ?_
 by_cases h0 : n < 0
 ·rw [show nm18 n = ⟨#[]⟩ by unfold nm18; simp only [show ¬ n = 0 by omega, show ¬ n = 1 by omega, show ¬ n = 2 by omega, show ¬ n = 3 by omega, show ¬ n = 4 by omega, show ¬ n = 5 by omega, show ¬ n = 6 by omega, show ¬ n = 7 by omega, if_false]]
  refine aCalls_go Tryz.func16 rfl (by decide) Tryz.ntmps16 (by simp) false ?_
  have hres : Tryz.f16.results = #[.tmp 2] := rfl
  repeat' (first|(with_reducible first|refine bt ?_|refine bf ?_|(first|refine bc ?_ ?_|refine gc ?_ ?_|refine pc ?_ ?_)<;>intro _|refine And.intro ?_ ?_)|simp -implicitDefEqProofs(maxSteps:=2000000)(disch:=first|assumption|omega)[*, ])
  all_goals exact EndsE.eq rfl (by simp)
 by_cases h7 : 7 < n
 ·rw [show nm18 n = ⟨#[]⟩ by unfold nm18; simp only [show ¬ n = 0 by omega, show ¬ n = 1 by omega, show ¬ n = 2 by omega, show ¬ n = 3 by omega, show ¬ n = 4 by omega, show ¬ n = 5 by omega, show ¬ n = 6 by omega, show ¬ n = 7 by omega, if_false]]
  refine aCalls_go Tryz.func16 rfl (by decide) Tryz.ntmps16 (by simp) false ?_
  have hres : Tryz.f16.results = #[.tmp 2] := rfl
  repeat' (first|(with_reducible first|refine bt ?_|refine bf ?_|(first|refine bc ?_ ?_|refine gc ?_ ?_|refine pc ?_ ?_)<;>intro _|refine And.intro ?_ ?_)|simp -implicitDefEqProofs(maxSteps:=2000000)(disch:=first|assumption|omega)[*, ])
  all_goals exact EndsE.eq rfl (by simp)
 have hc : n = 0 ∨ n = 1 ∨ n = 2 ∨ n = 3 ∨ n = 4 ∨ n = 5 ∨ n = 6 ∨ n = 7 := by omega
 refine aCalls_go Tryz.func16 rfl (by decide) Tryz.ntmps16 (by simp) false ?_
 have hres : Tryz.f16.results = #[.tmp 2] := rfl
 rcases hc with rfl | rfl | rfl | rfl | rfl | rfl | rfl | rfl
 all_goals
  repeat' (first|(with_reducible first|refine bt ?_|refine bf ?_|(first|refine bc ?_ ?_|refine gc ?_ ?_|refine pc ?_ ?_)<;>intro _|refine And.intro ?_ ?_)|simp -implicitDefEqProofs(maxSteps:=2000000)(disch:=first|assumption|omega)[*, ])
  all_goals exact EndsE.eq rfl (by simp)
theorem vname_p (n : Int) : PureE Tryz.prog 15 [.int .i64 n] (.str (nm18 n)) := by
 refine .of fun s v => ?_
 by_cases h0 : n < 0
 ·rw [show nm18 n = ⟨#[]⟩ by unfold nm18; simp only [show ¬ n = 0 by omega, show ¬ n = 1 by omega, show ¬ n = 2 by omega, show ¬ n = 3 by omega, show ¬ n = 4 by omega, show ¬ n = 5 by omega, show ¬ n = 6 by omega, show ¬ n = 7 by omega, if_false]]
  refine aCalls_go Tryz.func15 rfl (by decide) Tryz.ntmps15 (by simp) false ?_
  have hres : Tryz.f15.results = #[.tmp 2] := rfl
  repeat' (first|(with_reducible first|refine bt ?_|refine bf ?_|(first|refine bc ?_ ?_|refine gc ?_ ?_|refine pc ?_ ?_)<;>intro _|refine And.intro ?_ ?_)|simp -implicitDefEqProofs(maxSteps:=2000000)(disch:=first|assumption|omega)[*, ])
  all_goals exact EndsE.eq rfl (by simp)
 by_cases h7 : 8 ≤ n
 ·rw [show nm18 n = ⟨#[]⟩ by unfold nm18; simp only [show ¬ n = 0 by omega, show ¬ n = 1 by omega, show ¬ n = 2 by omega, show ¬ n = 3 by omega, show ¬ n = 4 by omega, show ¬ n = 5 by omega, show ¬ n = 6 by omega, show ¬ n = 7 by omega, if_false]]
  refine aCalls_go Tryz.func15 rfl (by decide) Tryz.ntmps15 (by simp) false ?_
  have hres : Tryz.f15.results = #[.tmp 2] := rfl
  repeat' (first|(with_reducible first|refine bt ?_|refine bf ?_|(first|refine bc ?_ ?_|refine gc ?_ ?_|refine pc ?_ ?_)<;>intro _|refine And.intro ?_ ?_)|simp -implicitDefEqProofs(maxSteps:=2000000)(disch:=first|assumption|omega)[*, ])
  all_goals exact EndsE.eq rfl (by simp)
 have hc : n = 0 ∨ n = 1 ∨ n = 2 ∨ n = 3 ∨ n = 4 ∨ n = 5 ∨ n = 6 ∨ n = 7 := by omega
 have hr := fun s v => rules_c (p := ⟨[], 0, [], [], [], [], 0⟩) (c := ⟨0, [], [], [], [], [], [], [], [], []⟩) ⟨by simp, by simp, by simp, ⟨by simp, by simp⟩, ⟨by simp, by simp⟩, ⟨by simp, by simp⟩, ⟨by simp, by simp⟩, ⟨by simp, by simp⟩, ⟨by simp, by simp⟩⟩ (s := s) (v := v)
 refine aCalls_go Tryz.func15 rfl (by decide) Tryz.ntmps15 (by simp) false ?_
 have hres : Tryz.f15.results = #[.tmp 2] := rfl
 repeat' (first|(with_reducible first|refine bt ?_|refine bf ?_|(first|refine bc ?_ ?_|refine gc ?_ ?_|refine pc ?_ ?_)<;>intro _|refine And.intro ?_ ?_)|simp -implicitDefEqProofs(maxSteps:=2000000)(disch:=first|assumption|omega)[*, ])
 refine aCalls_argw (by simp) (aCalls_mono (hr _ _) ?_)
 rintro _ _ _ ⟨Z, rfl, rfl, rfl⟩
 clear hr
 rcases hc with rfl | rfl | rfl | rfl | rfl | rfl | rfl | rfl
 all_goals
  repeat' (first|(with_reducible first|refine bt ?_|refine bf ?_|(first|refine bc ?_ ?_|refine gc ?_ ?_|refine pc ?_ ?_)<;>intro _|refine And.intro ?_ ?_)|simp -implicitDefEqProofs(maxSteps:=2000000)(disch:=first|assumption|omega)[*, ])
  all_goals exact EndsE.eqat rfl (by simp)
end Go.Hb
end

