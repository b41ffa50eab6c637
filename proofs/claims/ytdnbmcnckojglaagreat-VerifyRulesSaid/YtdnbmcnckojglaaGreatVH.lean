/-
  A layer for reasoning about the program's calls, and contracts of its functions (VH). CONDITIONS: none; each theorem bears its own.
-/
import Derived.Test.YtdnbmcnckojglaaGreatVG
set_option linter.unusedVariables false
set_option linter.unusedSimpArgs false
namespace Go.Hb
open Go Go.Proofs Go.RowKit
set_option maxRecDepth 100000
set_option maxHeartbeats 800000
attribute [-simp] aC aL aOper aThen aInBlock aIf aPlan aAppend aLen aIndexAddr aSlice aCells aBounds lBr aq initT aev aAppendOwn aAppendNil aAppendNew aAppendRef LV.cells LV.cellsOk getElem?_pos getElem?_neg
@[simp] def P8 : Nat → Plan
 | 9 => (.qs [0, 1, 2, 3, 4, 5] (.w 6 [] (.qs [7] .nil)))
 | _ => .nil
structure BigC (c : Cor) : Prop where
 threads : c.threads.length ≤ 1000000 ∧ ∀ t ∈ c.threads, t.frames.length ≤ 1000000 ∧ t.stack.length ≤ 1000000 ∧ ∀ f ∈ t.frames, f.locals.length ≤ 1000000
 owners : c.owners.length ≤ 1000000
 counts : c.counts.length ≤ 1000000
 bufs : BigR c.bufs
 lockq : BigR c.lockq
 waitq : BigR c.waitq
 downq : BigR c.downq
 sendq : BigR c.sendq
 recvq : BigR c.recvq
set_option maxHeartbeats 8000000 in
theorem shape_p {p : Prog} {c : Cor} {ver e : Int} (hp : MayP p) (hm : PureE Tryz.prog 31 [.agg [row p.funcs, .int .i64 p.mutexes, row p.conds, row p.semas, row p.chans, row p.choices, .int .i64 p.threads]] (.bool true)) (h : BigC c) : PureE Tryz.prog 8 [.agg [.int .i64 ver, .int .i64 e, row p.funcs, .int .i64 p.mutexes, row p.conds, row p.semas, row p.chans, row p.choices, .int .i64 p.threads, .int .i64 c.now, row c.threads, row c.owners, row c.counts, row c.bufs, row c.lockq, row c.waitq, row c.downq, row c.sendq, row c.recvq]] (.bool (shapeK e p c)) := by
 refine .of fun s v => ?_
 have ht := h.threads.1
 unfold shapeK
 by_cases h0 : shapeK0 e p c = true
 ·rw [if_pos h0]
  unfold shapeK0 at h0
  have hf1 : decide (c.threads.length < 1) = decide ((c.threads.length : Int) < 1) := by rw [decide_eq_decide]; omega
  rw [hf1] at h0
  clear hf1
  refine aCalls_go Tryz.func8 rfl (by decide) Tryz.ntmps8 (by simp) false ?_
  have hres : Tryz.f8.results = #[.tmp 2] := rfl
  repeat' (first|(with_reducible first|refine bt ?_|refine bf ?_|(first|refine bc ?_ ?_|refine gc ?_ ?_|refine pc ?_ ?_)<;>intro _|(refine dr P8 mixed ?_ ?_ ?_;kernel_rfl;kernel_rfl)|refine And.intro ?_ ?_|refine callE hm ?_)|simp -implicitDefEqProofs(maxSteps:=2000000)(disch:=first|assumption|omega)[*, ])
  all_goals first | exact EndsE.eqat rfl (by simp) | (exfalso; revert h0; simp [*]; done) | (exfalso; revert h0; simp [*] <;> omega)
 rw [if_neg h0]
 simp only [shapeK0, Bool.or_eq_true, decide_eq_true_eq, not_or] at h0
 obtain ⟨⟨⟨⟨⟨a1, a2⟩, a3⟩, a4⟩, a5⟩, a6⟩ := h0
 have a5' : ¬ (c.threads.length : Int) < 1 := by omega
 have hpc := hp.chans.1
 have q1 := between_p (l := c.owners) (a := -1) (b := (c.threads.length : Int) - 1) (by have := h.owners; omega)
 have q2 := between_p (l := c.counts) (a := 0) (b := 1073741824) (by have := h.counts; omega)
 have q3 := rows_p h.lockq (n := p.mutexes) (t := (c.threads.length : Int)) (by omega)
 have q4 := rows_p h.waitq (n := (p.conds.length : Int)) (t := (c.threads.length : Int)) (by omega)
 have q5 := rows_p h.downq (n := (p.semas.length : Int)) (t := (c.threads.length : Int)) (by omega)
 have q6 := chans_p (p := p) (by omega) ht h.bufs h.sendq h.recvq
 generalize chansK p c = b6 at *
 generalize betC c.owners (-1) ((c.threads.length : Int) - 1) = b1 at *
 generalize betC c.counts 0 1073741824 = b2 at *
 generalize rowsK c.lockq p.mutexes (c.threads.length : Int) = b3 at *
 generalize rowsK c.waitq (p.conds.length : Int) (c.threads.length : Int) = b4 at *
 generalize rowsK c.downq (p.semas.length : Int) (c.threads.length : Int) = b5 at *
 have hfe : decide (c.counts.length = p.semas.length) = decide ((c.counts.length : Int) = (p.semas.length : Int)) := by rw [decide_eq_decide]; omega
 rw [hfe]
 clear hfe hpc a5
 refine aCalls_go Tryz.func8 rfl (by decide) Tryz.ntmps8 (by simp) false ?_
 have hres : Tryz.f8.results = #[.tmp 2] := rfl
 repeat' (first|(with_reducible first|refine bt ?_|refine bf ?_|(first|refine bc ?_ ?_|refine gc ?_ ?_|refine pc ?_ ?_)<;>intro _|(refine dr P8 mixed ?_ ?_ ?_;kernel_rfl;kernel_rfl)|refine And.intro ?_ ?_|refine callE hm ?_)|simp -implicitDefEqProofs(maxSteps:=2000000)(disch:=first|assumption|omega)[*, ])
 clear hm a1 a2 a3 a4 a5' a6
 refine aW_for (β := Unit) false c.threads.length (fun k _ => ∀ j, j < k → thrK p (nth c.threads j) = true) (fun k _ => [(6, .int .i64 k), (56, .any), (57, .any), (58, .any), (59, .any), (60, .any), (63, .any), (64, .any), (65, .any), (66, .any), (67, .any), (68, .any), (69, .any), (7, .any), (70, .any), (71, .any), (2, .any), (61, .any), (62, .any)]) (fun _ _ => s ++ [.cells [.int .i64 ver, .int .i64 e, row p.funcs, .int .i64 p.mutexes, row p.conds, row p.semas, row p.chans, row p.choices, .int .i64 p.threads, .int .i64 c.now, row c.threads, row c.owners, row c.counts, row c.bufs, row c.lockq, row c.waitq, row c.downq, row c.sendq, row c.recvq], .cells [row p.funcs, .int .i64 p.mutexes, row p.conds, row p.semas, row p.chans, row p.choices, .int .i64 p.threads], .cells [.int .i64 c.now, row c.threads, row c.owners, row c.counts, row c.bufs, row c.lockq, row c.waitq, row c.downq, row c.sendq, row c.recvq]]) (fun _ _ => v) ?_ ?_
 ·exact ⟨(), by simp, by (refine Fits.of ?_ (Off.refl _ _); simp [upd_apply, upds_cons]), by simp, rfl⟩
 rintro k _ hk2 hI
 by_cases hlt : k < c.threads.length
 ·have hx := ix_in (l := c.threads) (i := (k : Int)) (by omega) (by omega)
  rw [Int.toNat_natCast] at hx
  have hb := h.threads.2 _ (nth_mem hlt)
  have hfr := tmay_p (p := p) (t := nth c.threads k) hb.1 hb.2.1 hb.2.2
  simp only [Thr.lv] at hfr
  have hbad : thrK p (nth c.threads k) = false → c.threads.all (thrK p) = false := fun h => allN_f hlt h
  have hgo : thrK p (nth c.threads k) = true → ∀ j, j < k + 1 → thrK p (nth c.threads j) = true := fun hy j hj => by
   by_cases e : j = k
   ·subst e; exact hy
   ·exact hI j (by omega)
  clear hI q1 q2 q3 q4 q5 q6 hb
  have hlt' : (k : Int) < c.threads.length := by omega
  generalize thrK p (nth c.threads k) = b at *
  cases b
  ·rw [if_pos (hbad rfl)]
   clear hbad hgo
   repeat' (first|(with_reducible first|refine bt ?_|refine bf ?_|(first|refine bc ?_ ?_|refine gc ?_ ?_|refine pc ?_ ?_)<;>intro _|(refine dr P8 mixed ?_ ?_ ?_;kernel_rfl;kernel_rfl)|refine And.intro ?_ ?_|refine callE hfr ?_)|simp -implicitDefEqProofs(maxSteps:=2000000)(disch:=first|assumption|omega)[*, ])
   all_goals exact EndsE.eqat rfl (by simp)
  ·have hg := hgo rfl
   clear hbad hgo
   repeat' (first|(with_reducible first|refine bt ?_|refine bf ?_|(first|refine bc ?_ ?_|refine gc ?_ ?_|refine pc ?_ ?_)<;>intro _|(refine dr P8 mixed ?_ ?_ ?_;kernel_rfl;kernel_rfl)|refine And.intro ?_ ?_|refine callE hfr ?_)|simp -implicitDefEqProofs(maxSteps:=2000000)(disch:=first|assumption|omega)[*, ])
   all_goals exact ⟨hlt, (), hg, by (refine Fits.of ?_ ?_; rotate_left; (repeat (first | with_reducible exact Off.refl _ _ | refine Off.upd rfl ?_ | refine Off.updO rfl ?_ | refine Off.upds rfl ?_)); simp [upd_apply, upds_cons]), by simp, rfl⟩
 ·have : k = c.threads.length := by omega
  subst this
  rw [if_neg (by rw [allN_t (f := thrK p) hI]; simp)]
  clear hI
  repeat' (first|(with_reducible first|refine bt ?_|refine bf ?_|(first|refine bc ?_ ?_|refine gc ?_ ?_|refine pc ?_ ?_)<;>intro _|(refine dr P8 mixed ?_ ?_ ?_;kernel_rfl;kernel_rfl)|refine And.intro ?_ ?_|refine callE q1 ?_|refine callE q2 ?_|refine callE q3 ?_|refine callE q4 ?_|refine callE q5 ?_|refine callE q6 ?_)|simp -implicitDefEqProofs(maxSteps:=2000000)(disch:=first|assumption|omega)[*, ])
  all_goals exact EndsE.eqat (by simp [*]) (by simp)
end Go.Hb
