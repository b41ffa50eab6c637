/-
  A layer for reasoning about the program's calls, and contracts of its functions (ND). CONDITIONS: none; each theorem bears its own.
-/
import Derived.Test.YtdnbmcnckojglaaGreatNC
set_option linter.unusedVariables false
set_option linter.unusedSimpArgs false
namespace Go.Hb
open Go Go.Proofs Go.RowKit
set_option maxRecDepth 100000
set_option maxHeartbeats 800000
attribute [-simp] aC aL aOper aThen aInBlock aIf aPlan aAppend aLen aIndexAddr aSlice aCells aBounds lBr aq initT aev aAppendOwn aAppendNil aAppendNew aAppendRef LV.cells LV.cellsOk getElem?_pos getElem?_neg
section
variable {p : Prog} {c : Cor} {s : List AObj} {i : Int} {a b d : Nat}
theorem rule0_c (hs : s[a]? = some (AObj.cells [row p.funcs, .int .i64 p.mutexes, row p.conds, row p.semas, row p.chans, row p.choices, .int .i64 p.threads, .int .i64 c.now, row c.threads, row c.owners, row c.counts, row c.bufs, row c.lockq, row c.waitq, row c.downq, row c.sendq, row c.recvq])) (hc : s[b]? = some (AObj.cells [.int .i64 c.now, row c.threads, row c.owners, row c.counts, row c.bufs, row c.lockq, row c.waitq, row c.downq, row c.sendq, row c.recvq])) (h0 : 0 ≤ i) (h1 : i < c.threads.length) : Ret Tryz.prog 67 [.int .i64 i, .ptr a 0, .ptr b 0] s (.bool (holdsC p c 0 i)) := by
 refine .of fun v => ?_
 have hx := ix_in h0 h1
 have hin := vin_p (p := p) (l := [0, 9]) h0 h1 (by simp)
 have hw : Weak (.imm 1 2 [.int .i64 0, .int .i64 9] .full) (row [(0 : Int), 9]) := imm1_row2 rfl rfl
 rw [show holdsC p c 0 i = (!decide ((nth c.threads i.toNat).state ∈ [(0 : Int), 9]) || decide ((nth c.threads i.toNat).on = 0)) from rfl]
 generalize decide ((nth c.threads i.toNat).state ∈ [(0 : Int), 9]) = m at *
 cases m
 ·refine aCalls_go Tryz.func67 rfl (by decide) Tryz.ntmps67 (by simp) false ?_
  have hres : Tryz.f67.results = #[.tmp 4] := rfl
  repeat' (first|(with_reducible first|refine bt ?_|refine bf ?_|(first|refine bc ?_ ?_|refine gc ?_ ?_|refine pc ?_ ?_)<;>intro _|refine And.intro ?_ ?_|refine callWE2 hin (by simp [hw]) ?_)|simp -implicitDefEqProofs(maxSteps:=2000000)(disch:=first|assumption|omega)[*, ])
  all_goals exact Ends.eq (by simp) (by simp) (List.prefix_refl _)
 ·refine aCalls_go Tryz.func67 rfl (by decide) Tryz.ntmps67 (by simp) false ?_
  have hres : Tryz.f67.results = #[.tmp 4] := rfl
  repeat' (first|(with_reducible first|refine bt ?_|refine bf ?_|(first|refine bc ?_ ?_|refine gc ?_ ?_|refine pc ?_ ?_)<;>intro _|refine And.intro ?_ ?_|refine callWE2 hin (by simp [hw]) ?_)|simp -implicitDefEqProofs(maxSteps:=2000000)(disch:=first|assumption|omega)[*, ])
  all_goals exact Ends.eq (by simp) (by simp) (List.prefix_refl _)
theorem rule1_c (hs : s[a]? = some (AObj.cells [row p.funcs, .int .i64 p.mutexes, row p.conds, row p.semas, row p.chans, row p.choices, .int .i64 p.threads, .int .i64 c.now, row c.threads, row c.owners, row c.counts, row c.bufs, row c.lockq, row c.waitq, row c.downq, row c.sendq, row c.recvq])) (hc : s[b]? = some (AObj.cells [.int .i64 c.now, row c.threads, row c.owners, row c.counts, row c.bufs, row c.lockq, row c.waitq, row c.downq, row c.sendq, row c.recvq])) (h0 : 0 ≤ i) (h1 : i < c.threads.length) : Ret Tryz.prog 69 [.int .i64 i, .ptr a 0, .ptr b 0] s (.bool (holdsC p c 1 i)) := by
 refine .of fun v => ?_
 have hx := ix_in h0 h1
 have hin := vin_p (p := p) (l := [1]) h0 h1 (by simp)
 have hw : Weak (.imm 1 1 [.int .i64 1] .full) (row [(1 : Int)]) := imm1_row2 rfl rfl
 rw [show holdsC p c 1 i = (!decide ((nth c.threads i.toNat).state ∈ [(1 : Int)]) || decide (c.now < (nth c.threads i.toNat).on)) from rfl]
 generalize decide ((nth c.threads i.toNat).state ∈ [(1 : Int)]) = m at *
 cases m
 ·refine aCalls_go Tryz.func69 rfl (by decide) Tryz.ntmps69 (by simp) false ?_
  have hres : Tryz.f69.results = #[.tmp 4] := rfl
  repeat' (first|(with_reducible first|refine bt ?_|refine bf ?_|(first|refine bc ?_ ?_|refine gc ?_ ?_|refine pc ?_ ?_)<;>intro _|(refine dr P69 mixed ?_ ?_ ?_;kernel_rfl;kernel_rfl)|refine And.intro ?_ ?_|refine callWE2 hin (by simp [hw]) ?_)|simp -implicitDefEqProofs(maxSteps:=2000000)(disch:=first|assumption|omega)[*, ])
  all_goals exact Ends.eq (by simp) (by simp) (List.prefix_refl _)
 ·refine aCalls_go Tryz.func69 rfl (by decide) Tryz.ntmps69 (by simp) false ?_
  have hres : Tryz.f69.results = #[.tmp 4] := rfl
  repeat' (first|(with_reducible first|refine bt ?_|refine bf ?_|(first|refine bc ?_ ?_|refine gc ?_ ?_|refine pc ?_ ?_)<;>intro _|(refine dr P69 mixed ?_ ?_ ?_;kernel_rfl;kernel_rfl)|refine And.intro ?_ ?_|refine callWE2 hin (by simp [hw]) ?_)|simp -implicitDefEqProofs(maxSteps:=2000000)(disch:=first|assumption|omega)[*, ])
  all_goals exact Ends.eq (by simp) (by simp) (List.prefix_refl _)
theorem rule2_c (hc : s[a]? = some (AObj.cells [.int .i64 c.now, row c.threads, row c.owners, row c.counts, row c.bufs, row c.lockq, row c.waitq, row c.downq, row c.sendq, row c.recvq])) (hs : s[b]? = some (AObj.cells [row p.funcs, .int .i64 p.mutexes, row p.conds, row p.semas, row p.chans, row p.choices, .int .i64 p.threads, .int .i64 c.now, row c.threads, row c.owners, row c.counts, row c.bufs, row c.lockq, row c.waitq, row c.downq, row c.sendq, row c.recvq])) (hn : s[d]? = some (.cells [.int .i64 c.threads.length])) (h0 : 0 ≤ i) (h1 : i < c.threads.length) : Ret Tryz.prog 70 [.int .i64 i, .ptr a 0, .ptr b 0, .ptr d 0] s (.bool (holdsC p c 2 i)) := by
 refine .of fun v => ?_
 have hx := ix_in h0 h1
 have hin := vin_p (p := p) (l := [2]) h0 h1 (by simp)
 have hw : Weak (.imm 1 1 [.int .i64 2] .full) (row [(2 : Int)]) := imm1_row2 rfl rfl
 have hw9 : Weak (.imm 1 1 [.int .i64 9] .full) (row [(9 : Int)]) := imm1_row2 rfl rfl
 have hh : holdsC p c 2 i = (!decide ((nth c.threads i.toNat).state ∈ [(2 : Int)]) || (decide (0 ≤ (nth c.threads i.toNat).on) && decide ((nth c.threads i.toNat).on < c.threads.length) && decide ((nth c.threads i.toNat).on ≠ i) && !decide ((nth c.threads (nth c.threads i.toNat).on.toNat).state ∈ [(9 : Int)]))) := rfl
 rw [hh]
 clear hh
 generalize decide ((nth c.threads i.toNat).state ∈ [(2 : Int)]) = m at *
 have hin' : PureE Tryz.prog 68 [.agg [row p.funcs, .int .i64 p.mutexes, row p.conds, row p.semas, row p.chans, row p.choices, .int .i64 p.threads, .int .i64 c.now, row c.threads, row c.owners, row c.counts, row c.bufs, row c.lockq, row c.waitq, row c.downq, row c.sendq, row c.recvq], .int .i64 i, .imm 1 1 [.int .i64 2] .full] (.bool m) := fun s v => aCalls_argw (args' := [.agg [row p.funcs, .int .i64 p.mutexes, row p.conds, row p.semas, row p.chans, row p.choices, .int .i64 p.threads, .int .i64 c.now, row c.threads, row c.owners, row c.counts, row c.bufs, row c.lockq, row c.waitq, row c.downq, row c.sendq, row c.recvq], .int .i64 i, row [(2 : Int)]]) ⟨Weak.refl _, Weak.refl _, hw, trivial⟩ (hin s v)
 cases m
 ·refine aCalls_go Tryz.func70 rfl (by decide) Tryz.ntmps70 (by simp) false ?_
  have hres : Tryz.f70.results = #[.tmp 5] := rfl
  repeat' (first|(with_reducible first|refine bt ?_|refine bf ?_|(first|refine bc ?_ ?_|refine gc ?_ ?_|refine pc ?_ ?_)<;>intro _|refine And.intro ?_ ?_|refine callE hin' ?_)|simp -implicitDefEqProofs(maxSteps:=2000000)(disch:=first|assumption|omega)[*, ])
  all_goals exact Ends.eq (by simp) (by simp) (List.prefix_refl _)
 ·by_cases q1 : 0 ≤ (nth c.threads i.toNat).on
  ·by_cases q2 : (nth c.threads i.toNat).on < c.threads.length
   ·by_cases q3 : (nth c.threads i.toNat).on = i
    ·refine aCalls_go Tryz.func70 rfl (by decide) Tryz.ntmps70 (by simp) false ?_
     have hres : Tryz.f70.results = #[.tmp 5] := rfl
     repeat' (first|(with_reducible first|refine bt ?_|refine bf ?_|(first|refine bc ?_ ?_|refine gc ?_ ?_|refine pc ?_ ?_)<;>intro _|refine And.intro ?_ ?_|refine callE hin' ?_)|simp -implicitDefEqProofs(maxSteps:=2000000)(disch:=first|assumption|omega)[*, ])
     all_goals exact Ends.eq (by simp [q3]) (by simp) (List.prefix_refl _)
    ·have hin2 := vin_p (p := p) (l := [9]) q1 q2 (by simp)
     generalize decide ((nth c.threads (nth c.threads i.toNat).on.toNat).state ∈ [(9 : Int)]) = m2 at *
     have hin2' : PureE Tryz.prog 68 [.agg [row p.funcs, .int .i64 p.mutexes, row p.conds, row p.semas, row p.chans, row p.choices, .int .i64 p.threads, .int .i64 c.now, row c.threads, row c.owners, row c.counts, row c.bufs, row c.lockq, row c.waitq, row c.downq, row c.sendq, row c.recvq], .int .i64 (nth c.threads i.toNat).on, .imm 1 1 [.int .i64 9] .full] (.bool m2) := fun s v => aCalls_argw (args' := [.agg [row p.funcs, .int .i64 p.mutexes, row p.conds, row p.semas, row p.chans, row p.choices, .int .i64 p.threads, .int .i64 c.now, row c.threads, row c.owners, row c.counts, row c.bufs, row c.lockq, row c.waitq, row c.downq, row c.sendq, row c.recvq], .int .i64 (nth c.threads i.toNat).on, row [(9 : Int)]]) ⟨Weak.refl _, Weak.refl _, hw9, trivial⟩ (hin2 s v)
     cases m2
     ·refine aCalls_go Tryz.func70 rfl (by decide) Tryz.ntmps70 (by simp) false ?_
      have hres : Tryz.f70.results = #[.tmp 5] := rfl
      repeat' (first|(with_reducible first|refine bt ?_|refine bf ?_|(first|refine bc ?_ ?_|refine gc ?_ ?_|refine pc ?_ ?_)<;>intro _|refine And.intro ?_ ?_|refine callE hin' ?_|refine callE hin2' ?_)|simp -implicitDefEqProofs(maxSteps:=2000000)(disch:=first|assumption|omega)[*, ])
      all_goals exact Ends.eq (by simp [q1, q2, q3]) (by simp) (List.prefix_refl _)
     ·refine aCalls_go Tryz.func70 rfl (by decide) Tryz.ntmps70 (by simp) false ?_
      have hres : Tryz.f70.results = #[.tmp 5] := rfl
      repeat' (first|(with_reducible first|refine bt ?_|refine bf ?_|(first|refine bc ?_ ?_|refine gc ?_ ?_|refine pc ?_ ?_)<;>intro _|refine And.intro ?_ ?_|refine callE hin' ?_|refine callE hin2' ?_)|simp -implicitDefEqProofs(maxSteps:=2000000)(disch:=first|assumption|omega)[*, ])
      all_goals exact Ends.eq (by simp [q1, q2, q3]) (by simp) (List.prefix_refl _)
   ·refine aCalls_go Tryz.func70 rfl (by decide) Tryz.ntmps70 (by simp) false ?_
    have hres : Tryz.f70.results = #[.tmp 5] := rfl
    repeat' (first|(with_reducible first|refine bt ?_|refine bf ?_|(first|refine bc ?_ ?_|refine gc ?_ ?_|refine pc ?_ ?_)<;>intro _|refine And.intro ?_ ?_|refine callE hin' ?_)|simp -implicitDefEqProofs(maxSteps:=2000000)(disch:=first|assumption|omega)[*, ])
    all_goals exact Ends.eq (by simp [q1, q2]) (by simp) (List.prefix_refl _)
  ·refine aCalls_go Tryz.func70 rfl (by decide) Tryz.ntmps70 (by simp) false ?_
   have hres : Tryz.f70.results = #[.tmp 5] := rfl
   repeat' (first|(with_reducible first|refine bt ?_|refine bf ?_|(first|refine bc ?_ ?_|refine gc ?_ ?_|refine pc ?_ ?_)<;>intro _|refine And.intro ?_ ?_|refine callE hin' ?_)|simp -implicitDefEqProofs(maxSteps:=2000000)(disch:=first|assumption|omega)[*, ])
   all_goals exact Ends.eq (by simp [q1]) (by simp) (List.prefix_refl _)
theorem rule5_c (hsh : ShC p c) (hc : s[a]? = some (AObj.cells [.int .i64 c.now, row c.threads, row c.owners, row c.counts, row c.bufs, row c.lockq, row c.waitq, row c.downq, row c.sendq, row c.recvq])) (h0 : 0 ≤ i) (h1 : i < c.owners.length) : Ret Tryz.prog 73 [.int .i64 i, .ptr a 0] s (.bool (holdsC p c 5 i)) := by
 refine .of fun v => ?_
 have hl := hsh.len
 have hx := ix_in h0 h1
 have hx2 := ix_in (l := c.lockq) (i := i) h0 (by rw [hl.lockq, ← hl.owners]; exact h1)
 rw [show holdsC p c 5 i = (decide ((nth c.lockq i.toNat).length = 0) || decide (nth c.owners i.toNat ≠ -1)) from rfl]
 by_cases q1 : (nth c.lockq i.toNat).length = 0
 ·refine aCalls_go Tryz.func73 rfl (by decide) Tryz.ntmps73 (by simp) false ?_
  have hres : Tryz.f73.results = #[.tmp 3] := rfl
  repeat' (first|(with_reducible first|refine bt ?_|refine bf ?_|(first|refine bc ?_ ?_|refine gc ?_ ?_|refine pc ?_ ?_)<;>intro _|refine And.intro ?_ ?_)|simp -implicitDefEqProofs(maxSteps:=2000000)(disch:=first|assumption|omega)[*, ])
  all_goals exact Ends.eq (by simp [q1]) (by simp) (List.prefix_refl _)
 ·have q1i : ¬ ((nth c.lockq i.toNat).length : Int) = 0 := by omega
  by_cases q2 : nth c.owners i.toNat = -1
  ·refine aCalls_go Tryz.func73 rfl (by decide) Tryz.ntmps73 (by simp) false ?_
   have hres : Tryz.f73.results = #[.tmp 3] := rfl
   repeat' (first|(with_reducible first|refine bt ?_|refine bf ?_|(first|refine bc ?_ ?_|refine gc ?_ ?_|refine pc ?_ ?_)<;>intro _|refine And.intro ?_ ?_)|simp -implicitDefEqProofs(maxSteps:=2000000)(disch:=first|assumption|omega)[*, ])
   all_goals exact Ends.eq (by simp [q1, q2]) (by simp) (List.prefix_refl _)
  ·refine aCalls_go Tryz.func73 rfl (by decide) Tryz.ntmps73 (by simp) false ?_
   have hres : Tryz.f73.results = #[.tmp 3] := rfl
   repeat' (first|(with_reducible first|refine bt ?_|refine bf ?_|(first|refine bc ?_ ?_|refine gc ?_ ?_|refine pc ?_ ?_)<;>intro _|refine And.intro ?_ ?_)|simp -implicitDefEqProofs(maxSteps:=2000000)(disch:=first|assumption|omega)[*, ])
   all_goals exact Ends.eq (by simp [q1, q2]) (by simp) (List.prefix_refl _)
theorem rule6_c (hsh : ShC p c) (hc : s[a]? = some (AObj.cells [.int .i64 c.now, row c.threads, row c.owners, row c.counts, row c.bufs, row c.lockq, row c.waitq, row c.downq, row c.sendq, row c.recvq])) (h0 : 0 ≤ i) (h1 : i < c.counts.length) : Ret Tryz.prog 74 [.int .i64 i, .ptr a 0] s (.bool (holdsC p c 6 i)) := by
 refine .of fun v => ?_
 have hl := hsh.len
 have hx := ix_in h0 h1
 have hx2 := ix_in (l := c.downq) (i := i) h0 (by rw [hl.downq, ← hl.counts]; exact h1)
 rw [show holdsC p c 6 i = (decide (nth c.counts i.toNat = 0) || decide ((nth c.downq i.toNat).length = 0)) from rfl]
 by_cases q1 : nth c.counts i.toNat = 0
 ·refine aCalls_go Tryz.func74 rfl (by decide) Tryz.ntmps74 (by simp) false ?_
  have hres : Tryz.f74.results = #[.tmp 3] := rfl
  repeat' (first|(with_reducible first|refine bt ?_|refine bf ?_|(first|refine bc ?_ ?_|refine gc ?_ ?_|refine pc ?_ ?_)<;>intro _|refine And.intro ?_ ?_)|simp -implicitDefEqProofs(maxSteps:=2000000)(disch:=first|assumption|omega)[*, ])
  all_goals exact Ends.eq (by simp [q1]) (by simp) (List.prefix_refl _)
 ·refine aCalls_go Tryz.func74 rfl (by decide) Tryz.ntmps74 (by simp) false ?_
  have hres : Tryz.f74.results = #[.tmp 3] := rfl
  repeat' (first|(with_reducible first|refine bt ?_|refine bf ?_|(first|refine bc ?_ ?_|refine gc ?_ ?_|refine pc ?_ ?_)<;>intro _|refine And.intro ?_ ?_)|simp -implicitDefEqProofs(maxSteps:=2000000)(disch:=first|assumption|omega)[*, ])
  all_goals exact Ends.eq (by simp [q1]) (by simp) (List.prefix_refl _)
theorem rule7_c (hsh : ShC p c) (hc : s[a]? = some (AObj.cells [.int .i64 c.now, row c.threads, row c.owners, row c.counts, row c.bufs, row c.lockq, row c.waitq, row c.downq, row c.sendq, row c.recvq])) (hp : s[b]? = some (AObj.cells [row p.funcs, .int .i64 p.mutexes, row p.conds, row p.semas, row p.chans, row p.choices, .int .i64 p.threads])) (h0 : 0 ≤ i) (h1 : i < c.bufs.length) : Ret Tryz.prog 75 [.int .i64 i, .ptr a 0, .ptr b 0] s (.bool (holdsC p c 7 i)) := by
 refine .of fun v => ?_
 have hl := hsh.len
 have e1 := hl.bufs; have e2 := hl.sendq; have e3 := hl.recvq
 have hx := ix_in h0 h1
 have hx2 := ix_in (l := c.sendq) (i := i) h0 (by omega)
 have hx3 := ix_in (l := c.recvq) (i := i) h0 (by omega)
 have hx4 := ix_in (l := p.chans) (i := i) h0 (by omega)
 have b1 := hsh.b.bufs.2 _ (nth_mem (k := i.toNat) (by omega : i.toNat < c.bufs.length))
 have b2 := hsh.b.sendq.2 _ (nth_mem (k := i.toNat) (by omega : i.toNat < c.sendq.length))
 have hh : holdsC p c 7 i = ((decide ((nth c.recvq i.toNat).length = 0) || decide ((nth c.bufs i.toNat).length + (nth c.sendq i.toNat).length = 0)) && (decide ((nth c.sendq i.toNat).length = 0) || decide (((nth c.bufs i.toNat).length : Int) = nth p.chans i.toNat))) := rfl
 rw [hh]
 clear hh e1 e2 e3 hl
 generalize hq1 : (nth c.recvq i.toNat).length = r at *
 generalize hq2 : (nth c.bufs i.toNat).length = n at *
 generalize hq3 : (nth c.sendq i.toNat).length = m at *
 clear hsh
 by_cases q1 : r = 0
 ·by_cases q3 : m = 0
  ·refine aCalls_go Tryz.func75 rfl (by decide) Tryz.ntmps75 (by simp) false ?_
   have hres : Tryz.f75.results = #[.tmp 4] := rfl
   repeat' (first|(with_reducible first|refine bt ?_|refine bf ?_|(first|refine bc ?_ ?_|refine gc ?_ ?_|refine pc ?_ ?_)<;>intro _|(refine dr P75 mixed ?_ ?_ ?_;kernel_rfl;kernel_rfl)|refine And.intro ?_ ?_)|simp -implicitDefEqProofs(maxSteps:=2000000)(disch:=first|assumption|omega)[*, ])
   all_goals (first | (exfalso; omega) | ((try subst_vars); (first | refine Ends.eq ?_ (by simp) (by simp [*]) | refine Ends.eqat ?_ (by simp) (by simp [*])); (first | with_reducible rfl | (simp [*, ]; done) | (simp [*, ]; omega) | (simp only [LV.bool.injEq]; rw [Bool.eq_iff_iff]; simp [*, ]; done) | (simp only [LV.bool.injEq]; rw [Bool.eq_iff_iff]; simp [*, ]; omega) | (simp only [LV.bool.injEq]; rw [Bool.eq_iff_iff]; simp (disch := omega) only [if_pos, if_neg, if_true, if_false, *, ]; simp <;> omega) | (simp only [LV.bool.injEq, Bool.and_eq_false_imp, Bool.and_eq_true, decide_eq_true_eq]; intros; exfalso; omega) | (simp only [LV.bool.injEq, Bool.and_eq_false_imp, Bool.and_eq_true, decide_eq_true_eq]; intros; simp_all; done))))
  ·have q3i : ¬ (m : Int) = 0 := by omega
   refine aCalls_go Tryz.func75 rfl (by decide) Tryz.ntmps75 (by simp) false ?_
   have hres : Tryz.f75.results = #[.tmp 4] := rfl
   repeat' (first|(with_reducible first|refine bt ?_|refine bf ?_|(first|refine bc ?_ ?_|refine gc ?_ ?_|refine pc ?_ ?_)<;>intro _|(refine dr P75 mixed ?_ ?_ ?_;kernel_rfl;kernel_rfl)|refine And.intro ?_ ?_)|simp -implicitDefEqProofs(maxSteps:=2000000)(disch:=first|assumption|omega)[*, ])
   all_goals (first | (exfalso; omega) | ((try subst_vars); (first | refine Ends.eq ?_ (by simp) (by simp [*]) | refine Ends.eqat ?_ (by simp) (by simp [*])); (first | with_reducible rfl | (simp [*, ]; done) | (simp [*, ]; omega) | (simp only [LV.bool.injEq]; rw [Bool.eq_iff_iff]; simp [*, ]; done) | (simp only [LV.bool.injEq]; rw [Bool.eq_iff_iff]; simp [*, ]; omega) | (simp only [LV.bool.injEq]; rw [Bool.eq_iff_iff]; simp (disch := omega) only [if_pos, if_neg, if_true, if_false, *, ]; simp <;> omega) | (simp only [LV.bool.injEq, Bool.and_eq_false_imp, Bool.and_eq_true, decide_eq_true_eq]; intros; exfalso; omega) | (simp only [LV.bool.injEq, Bool.and_eq_false_imp, Bool.and_eq_true, decide_eq_true_eq]; intros; simp_all; done))))
 ·have q1i : ¬ (r : Int) = 0 := by omega
  by_cases q2 : n + m = 0
  ·refine aCalls_go Tryz.func75 rfl (by decide) Tryz.ntmps75 (by simp) false ?_
   have hres : Tryz.f75.results = #[.tmp 4] := rfl
   repeat' (first|(with_reducible first|refine bt ?_|refine bf ?_|(first|refine bc ?_ ?_|refine gc ?_ ?_|refine pc ?_ ?_)<;>intro _|(refine dr P75 mixed ?_ ?_ ?_;kernel_rfl;kernel_rfl)|refine And.intro ?_ ?_)|simp -implicitDefEqProofs(maxSteps:=2000000)(disch:=first|assumption|omega)[*, ])
   all_goals (first | (exfalso; omega) | ((try subst_vars); (first | refine Ends.eq ?_ (by simp) (by simp [*]) | refine Ends.eqat ?_ (by simp) (by simp [*])); (first | with_reducible rfl | (simp [*, ]; done) | (simp [*, ]; omega) | (simp only [LV.bool.injEq]; rw [Bool.eq_iff_iff]; simp [*, ]; done) | (simp only [LV.bool.injEq]; rw [Bool.eq_iff_iff]; simp [*, ]; omega) | (simp only [LV.bool.injEq]; rw [Bool.eq_iff_iff]; simp (disch := omega) only [if_pos, if_neg, if_true, if_false, *, ]; simp <;> omega) | (simp only [LV.bool.injEq, Bool.and_eq_false_imp, Bool.and_eq_true, decide_eq_true_eq]; intros; exfalso; omega) | (simp only [LV.bool.injEq, Bool.and_eq_false_imp, Bool.and_eq_true, decide_eq_true_eq]; intros; simp_all; done))))
  ·have q2i : ¬ (n : Int) + m = 0 := by omega
   refine aCalls_go Tryz.func75 rfl (by decide) Tryz.ntmps75 (by simp) false ?_
   have hres : Tryz.f75.results = #[.tmp 4] := rfl
   repeat' (first|(with_reducible first|refine bt ?_|refine bf ?_|(first|refine bc ?_ ?_|refine gc ?_ ?_|refine pc ?_ ?_)<;>intro _|(refine dr P75 mixed ?_ ?_ ?_;kernel_rfl;kernel_rfl)|refine And.intro ?_ ?_)|simp -implicitDefEqProofs(maxSteps:=2000000)(disch:=first|assumption|omega)[*, ])
   all_goals (first | (exfalso; omega) | ((try subst_vars); (first | refine Ends.eq ?_ (by simp) (by simp [*]) | refine Ends.eqat ?_ (by simp) (by simp [*])); (first | with_reducible rfl | (simp [*, ]; done) | (simp [*, ]; omega) | (simp only [LV.bool.injEq]; rw [Bool.eq_iff_iff]; simp [*, ]; done) | (simp only [LV.bool.injEq]; rw [Bool.eq_iff_iff]; simp [*, ]; omega) | (simp only [LV.bool.injEq]; rw [Bool.eq_iff_iff]; simp (disch := omega) only [if_pos, if_neg, if_true, if_false, *, ]; simp <;> omega) | (simp only [LV.bool.injEq, Bool.and_eq_false_imp, Bool.and_eq_true, decide_eq_true_eq]; intros; exfalso; omega) | (simp only [LV.bool.injEq, Bool.and_eq_false_imp, Bool.and_eq_true, decide_eq_true_eq]; intros; simp_all; done))))
end
end Go.Hb
