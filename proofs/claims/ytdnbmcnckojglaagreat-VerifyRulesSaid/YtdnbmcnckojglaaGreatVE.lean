/-
  A layer for reasoning about the program's calls, and contracts of its functions (VE). CONDITIONS: none; each theorem bears its own.
-/
import Derived.Test.YtdnbmcnckojglaaGreatMA
import Derived.Test.YtdnbmcnckojglaaGreatL9
set_option linter.unusedVariables false
set_option linter.unusedSimpArgs false
section
namespace Go.Hb
open Go Go.Proofs Go.RowKit
set_option maxRecDepth 100000
set_option maxHeartbeats 800000
attribute [-simp] aC aL aOper aThen aInBlock aIf aPlan aAppend aLen aIndexAddr aSlice aCells aBounds lBr aq initT aev aAppendOwn aAppendNil aAppendNew aAppendRef LV.cells LV.cellsOk getElem?_pos getElem?_neg

theorem between_p {l : List Int} {a b : Int} (hb : l.length ≤ 1000000000) : PureE Tryz.prog 33 [row l, .int .i64 a, .int .i64 b] (.bool (betC l a b)) := by
 refine .of fun s v => ?_
 refine aCalls_go Tryz.func33 rfl (by decide) Tryz.ntmps33 (by simp) false ?_
 have hres : Tryz.f33.results = #[.tmp 6] := rfl
 repeat' (first|(with_reducible first|refine bt ?_|refine bf ?_|(first|refine bc ?_ ?_|refine gc ?_ ?_|refine pc ?_ ?_)<;>intro _)|simp -implicitDefEqProofs(maxSteps:=2000000)(disch:=first|assumption|omega)[*, ])
 refine aW_for (β := Unit) false l.length (fun k _ => ∀ j, j < k → (!(decide (nth l j < a) || decide (b < nth l j))) = true) (fun k _ => [(7, .int .i64 k), (8, .any), (9, .any), (10, .any), (11, .any), (14, .any), (15, .any), (16, .any), (17, .any), (18, .any), (19, .any), (20, .any), (21, .any), (22, .any), (23, .any), (24, .any), (25, .any), (26, .any), (27, .any), (6, .any), (12, .any), (13, .any)]) (fun _ _ => s) (fun _ _ => v) ?_ ?_
 ·exact ⟨(), by simp, by (refine Fits.of ?_ (Off.refl _ _); simp [upd_apply, upds_cons]), rfl, rfl⟩
 rintro k _ hk hI
 by_cases hlt : k < l.length
 ·have hx := ix_in (l := l) (i := (k : Int)) (by omega) (by omega)
  rw [Int.toNat_natCast] at hx
  have hbad : (!(decide (nth l k < a) || decide (b < nth l k))) = false → betC l a b = false := fun h => allN_f (f := fun x => !(decide (x < a) || decide (b < x))) hlt h
  have hgo : (!(decide (nth l k < a) || decide (b < nth l k))) = true → ∀ j, j < k + 1 → (!(decide (nth l j < a) || decide (b < nth l j))) = true := fun hy j hj => by
   by_cases e : j = k
   ·subst e; exact hy
   ·exact hI j (by omega)
  clear hI
  have hlt' : (k : Int) < l.length := by omega
  by_cases h1 : nth l k < a
  ·rw [hbad (by simp [h1])]
   clear hbad hgo
   repeat' (first|(with_reducible first|refine bt ?_|refine bf ?_|(first|refine bc ?_ ?_|refine gc ?_ ?_|refine pc ?_ ?_)<;>intro _|refine And.intro ?_ ?_)|simp -implicitDefEqProofs(maxSteps:=2000000)(disch:=first|assumption|omega)[*, ])
   all_goals exact EndsE.eq rfl (by simp)
  ·by_cases h2 : b < nth l k
   ·rw [hbad (by simp [h2])]
    clear hbad hgo
    repeat' (first|(with_reducible first|refine bt ?_|refine bf ?_|(first|refine bc ?_ ?_|refine gc ?_ ?_|refine pc ?_ ?_)<;>intro _|refine And.intro ?_ ?_)|simp -implicitDefEqProofs(maxSteps:=2000000)(disch:=first|assumption|omega)[*, ])
    all_goals exact EndsE.eq rfl (by simp)
   ·have hg := hgo (by simp [h1, h2])
    clear hbad hgo
    repeat' (first|(with_reducible first|refine bt ?_|refine bf ?_|(first|refine bc ?_ ?_|refine gc ?_ ?_|refine pc ?_ ?_)<;>intro _|refine And.intro ?_ ?_)|simp -implicitDefEqProofs(maxSteps:=2000000)(disch:=first|assumption|omega)[*, ])
    all_goals exact ⟨hlt, (), hg, by (refine Fits.of ?_ ?_; rotate_left; (repeat (first | with_reducible exact Off.refl _ _ | refine Off.upd rfl ?_ | refine Off.updO rfl ?_ | refine Off.upds rfl ?_)); simp [upd_apply, upds_cons]), rfl, rfl⟩
 ·have : k = l.length := by omega
  subst this
  rw [show betC l a b = true from allN_t (f := fun x => !(decide (x < a) || decide (b < x))) hI]
  clear hI
  repeat' (first|(with_reducible first|refine bt ?_|refine bf ?_|(first|refine bc ?_ ?_|refine gc ?_ ?_|refine pc ?_ ?_)<;>intro _|refine And.intro ?_ ?_)|simp -implicitDefEqProofs(maxSteps:=2000000)(disch:=first|assumption|omega)[*, ])
  all_goals exact EndsE.eq rfl (by simp)
theorem kept_p {l : List Int} (hb : l.length ≤ 1000000000) : PureE Tryz.prog 64 [row l] (.bool (keptK l)) := by
 refine .of fun s v => ?_
 refine aCalls_go Tryz.func64 rfl (by decide) Tryz.ntmps64 (by simp) false ?_
 have hres : Tryz.f64.results = #[.tmp 2] := rfl
 repeat' (first|(with_reducible first|refine bt ?_|refine bf ?_|(first|refine bc ?_ ?_|refine gc ?_ ?_|refine pc ?_ ?_)<;>intro _)|simp -implicitDefEqProofs(maxSteps:=2000000)(disch:=first|assumption|omega)[*, ])
 refine aW_for (β := Unit) false l.length (fun k _ => ∀ j, j < k → (!(decide (nth l j < -1073741824) || decide (1073741824 < nth l j))) = true) (fun k _ => [(3, .int .i64 k), (4, .any), (5, .any), (6, .any), (7, .any), (10, .any), (11, .any), (12, .any), (13, .any), (14, .any), (15, .any), (16, .any), (17, .any), (18, .any), (19, .any), (20, .any), (21, .any), (2, .any), (8, .any), (9, .any)]) (fun _ _ => s) (fun _ _ => v) ?_ ?_
 ·exact ⟨(), by simp, by (refine Fits.of ?_ (Off.refl _ _); simp [upd_apply, upds_cons]), rfl, rfl⟩
 rintro k _ hk hI
 by_cases hlt : k < l.length
 ·have hx := ix_in (l := l) (i := (k : Int)) (by omega) (by omega)
  rw [Int.toNat_natCast] at hx
  have hbad : (!(decide (nth l k < -1073741824) || decide (1073741824 < nth l k))) = false → keptK l = false := fun h => allN_f (f := fun x => !(decide (x < -1073741824) || decide (1073741824 < x))) hlt h
  have hgo : (!(decide (nth l k < -1073741824) || decide (1073741824 < nth l k))) = true → ∀ j, j < k + 1 → (!(decide (nth l j < -1073741824) || decide (1073741824 < nth l j))) = true := fun hy j hj => by
   by_cases e : j = k
   ·subst e; exact hy
   ·exact hI j (by omega)
  clear hI
  have hlt' : (k : Int) < l.length := by omega
  by_cases h1 : nth l k < -1073741824
  ·rw [hbad (by simp [h1])]
   clear hbad hgo
   repeat' (first|(with_reducible first|refine bt ?_|refine bf ?_|(first|refine bc ?_ ?_|refine gc ?_ ?_|refine pc ?_ ?_)<;>intro _|refine And.intro ?_ ?_)|simp -implicitDefEqProofs(maxSteps:=2000000)(disch:=first|assumption|omega)[*, ])
   all_goals exact EndsE.eq rfl (by simp)
  ·by_cases h2 : 1073741824 < nth l k
   ·rw [hbad (by simp [h2])]
    clear hbad hgo
    repeat' (first|(with_reducible first|refine bt ?_|refine bf ?_|(first|refine bc ?_ ?_|refine gc ?_ ?_|refine pc ?_ ?_)<;>intro _|refine And.intro ?_ ?_)|simp -implicitDefEqProofs(maxSteps:=2000000)(disch:=first|assumption|omega)[*, ])
    all_goals exact EndsE.eq rfl (by simp)
   ·have hg := hgo (by simp [h1, h2])
    clear hbad hgo
    repeat' (first|(with_reducible first|refine bt ?_|refine bf ?_|(first|refine bc ?_ ?_|refine gc ?_ ?_|refine pc ?_ ?_)<;>intro _|refine And.intro ?_ ?_)|simp -implicitDefEqProofs(maxSteps:=2000000)(disch:=first|assumption|omega)[*, ])
    all_goals exact ⟨hlt, (), hg, by (refine Fits.of ?_ ?_; rotate_left; (repeat (first | with_reducible exact Off.refl _ _ | refine Off.upd rfl ?_ | refine Off.updO rfl ?_ | refine Off.upds rfl ?_)); simp [upd_apply, upds_cons]), rfl, rfl⟩
 ·have : k = l.length := by omega
  subst this
  rw [show keptK l = true from allN_t (f := fun x => !(decide (x < -1073741824) || decide (1073741824 < x))) hI]
  clear hI
  repeat' (first|(with_reducible first|refine bt ?_|refine bf ?_|(first|refine bc ?_ ?_|refine gc ?_ ?_|refine pc ?_ ?_)<;>intro _|refine And.intro ?_ ?_)|simp -implicitDefEqProofs(maxSteps:=2000000)(disch:=first|assumption|omega)[*, ])
  all_goals exact EndsE.eq rfl (by simp)
def BigR (L : List (List Int)) : Prop := L.length ≤ 1000000 ∧ ∀ l ∈ L, l.length ≤ 1000000
theorem rows_p {L : List (List Int)} {n t : Int} (hb : BigR L) (ht : 0 ≤ t ∧ t ≤ 1000000) : PureE Tryz.prog 34 [row L, .int .i64 n, .int .i64 t] (.bool (rowsK L n t)) := by
 refine .of fun s v => ?_
 have hL := hb.1
 by_cases hn : ¬ (L.length : Int) = n
 ·rw [show rowsK L n t = false by unfold rowsK; rw [if_neg hn]]
  refine aCalls_go Tryz.func34 rfl (by decide) Tryz.ntmps34 (by simp) false ?_
  have hres : Tryz.f34.results = #[.tmp 6] := rfl
  repeat' (first|(with_reducible first|refine bt ?_|refine bf ?_|(first|refine bc ?_ ?_|refine gc ?_ ?_|refine pc ?_ ?_)<;>intro _|refine And.intro ?_ ?_)|simp -implicitDefEqProofs(maxSteps:=2000000)(disch:=first|assumption|omega)[*, ])
  all_goals exact EndsE.eq rfl (by simp)
 obtain rfl : n = L.length := by omega
 clear hn
 rw [show rowsK L L.length t = L.all (rowK t) by unfold rowsK; rw [if_pos rfl]]
 refine aCalls_go Tryz.func34 rfl (by decide) Tryz.ntmps34 (by simp) false ?_
 have hres : Tryz.f34.results = #[.tmp 6] := rfl
 repeat' (first|(with_reducible first|refine bt ?_|refine bf ?_|(first|refine bc ?_ ?_|refine gc ?_ ?_|refine pc ?_ ?_)<;>intro _|refine And.intro ?_ ?_)|simp -implicitDefEqProofs(maxSteps:=2000000)(disch:=first|assumption|omega)[*, ])
 refine aW_for (β := Unit) false L.length (fun k _ => ∀ j, j < k → rowK t (nth L j) = true) (fun k _ => [(7, .int .i64 k), (13, .any), (14, .any), (15, .any), (18, .any), (19, .any), (20, .any), (21, .any), (22, .any), (23, .any), (24, .any), (8, .any), (25, .any), (26, .any), (27, .any), (28, .any), (29, .any), (30, .any), (31, .any), (32, .any), (33, .any), (34, .any), (6, .any), (16, .any), (17, .any)]) (fun _ _ => s) (fun _ _ => v) ?_ ?_
 ·exact ⟨(), by simp, by (refine Fits.of ?_ (Off.refl _ _); simp [upd_apply, upds_cons]), rfl, rfl⟩
 rintro k _ hk hI
 by_cases hlt : k < L.length
 ·have hx := ix_in (l := L) (i := (k : Int)) (by omega) (by omega)
  rw [Int.toNat_natCast] at hx
  have hbt := between_p (l := nth L k) (a := 0) (b := t - 1) (by have := hb.2 _ (nth_mem hlt); omega)
  have hbad : rowK t (nth L k) = false → L.all (rowK t) = false := fun h => allN_f hlt h
  have hgo : rowK t (nth L k) = true → ∀ j, j < k + 1 → rowK t (nth L j) = true := fun hy j hj => by
   by_cases e : j = k
   ·subst e; exact hy
   ·exact hI j (by omega)
  clear hI
  have hlt' : (k : Int) < L.length := by omega
  have e : rowK t (nth L k) = (betC (nth L k) 0 (t - 1) && !decide (32 < (nth L k).length)) := rfl
  rw [e] at hbad hgo
  clear e
  generalize betC (nth L k) 0 (t - 1) = b at *
  cases b
  ·rw [hbad rfl]
   clear hbad hgo
   repeat' (first|(with_reducible first|refine bt ?_|refine bf ?_|(first|refine bc ?_ ?_|refine gc ?_ ?_|refine pc ?_ ?_)<;>intro _|refine And.intro ?_ ?_|refine callE hbt ?_)|simp -implicitDefEqProofs(maxSteps:=2000000)(disch:=first|assumption|omega)[*, ])
   all_goals exact EndsE.eq rfl (by simp)
  ·by_cases h2 : 32 < (nth L k).length
   ·have h2' : (32 : Int) < (nth L k).length := by omega
    rw [hbad (by simp [h2])]
    clear hbad hgo
    repeat' (first|(with_reducible first|refine bt ?_|refine bf ?_|(first|refine bc ?_ ?_|refine gc ?_ ?_|refine pc ?_ ?_)<;>intro _|refine And.intro ?_ ?_|refine callE hbt ?_)|simp -implicitDefEqProofs(maxSteps:=2000000)(disch:=first|assumption|omega)[*, ])
    all_goals exact EndsE.eq rfl (by simp)
   ·have h2' : ¬ (32 : Int) < (nth L k).length := by omega
    have hg := hgo (by simp [h2])
    clear hbad hgo
    repeat' (first|(with_reducible first|refine bt ?_|refine bf ?_|(first|refine bc ?_ ?_|refine gc ?_ ?_|refine pc ?_ ?_)<;>intro _|refine And.intro ?_ ?_|refine callE hbt ?_)|simp -implicitDefEqProofs(maxSteps:=2000000)(disch:=first|assumption|omega)[*, ])
    all_goals exact ⟨hlt, (), hg, by (refine Fits.of ?_ ?_; rotate_left; (repeat (first | with_reducible exact Off.refl _ _ | refine Off.upd rfl ?_ | refine Off.updO rfl ?_ | refine Off.upds rfl ?_)); simp [upd_apply, upds_cons]), rfl, rfl⟩
 ·have : k = L.length := by omega
  subst this
  rw [show L.all (rowK t) = true from allN_t hI]
  clear hI
  repeat' (first|(with_reducible first|refine bt ?_|refine bf ?_|(first|refine bc ?_ ?_|refine gc ?_ ?_|refine pc ?_ ?_)<;>intro _|refine And.intro ?_ ?_)|simp -implicitDefEqProofs(maxSteps:=2000000)(disch:=first|assumption|omega)[*, ])
  all_goals exact EndsE.eq rfl (by simp)
end Go.Hb
end

section
namespace Go.Hb
open Go Go.Proofs Go.RowKit
set_option maxRecDepth 100000
set_option maxHeartbeats 800000
attribute [-simp] aC aL aOper aThen aInBlock aIf aPlan aAppend aLen aIndexAddr aSlice aCells aBounds lBr aq initT aev aAppendOwn aAppendNil aAppendNew aAppendRef LV.cells LV.cellsOk getElem?_pos getElem?_neg
@[simp] def P32 : Nat → Plan
 | 2 => (.qs [0, 1, 2, 3, 4, 5, 6, 7, 8, 9, 10, 11, 12, 13, 14, 15, 16, 17, 18, 19, 20, 21, 22, 23, 24, 25, 26, 27, 28, 29, 30, 31, 32, 33, 34, 35, 36, 37, 38] (.w 39 [36] (.qs [40, 41] .nil)))
 | 7 => (.qs [0, 1, 2, 3, 4, 5] (.w 6 [] (.qs [7] .nil)))
 | _ => .nil
theorem tframe_p {p : Prog} {f : Frm} (hl : f.locals.length ≤ 1000000) : PureE Tryz.prog 66 [.agg [row p.funcs, .int .i64 p.mutexes, row p.conds, row p.semas, row p.chans, row p.choices, .int .i64 p.threads], .agg [.int .i64 f.func, .int .i64 f.pc, row f.locals]] (.bool (frmK p f)) := by
 refine .of fun s v => ?_
 unfold frmK
 by_cases h0 : f.func < 0
 ·rw [if_pos (.inl h0)]
  refine aCalls_go Tryz.func66 rfl (by decide) Tryz.ntmps66 (by simp) false ?_
  have hres : Tryz.f66.results = #[.tmp 4] := rfl
  repeat' (first|(with_reducible first|refine bt ?_|refine bf ?_|(first|refine bc ?_ ?_|refine gc ?_ ?_|refine pc ?_ ?_)<;>intro _|refine And.intro ?_ ?_)|simp -implicitDefEqProofs(maxSteps:=2000000)(disch:=first|assumption|omega)[*, ])
  all_goals exact EndsE.eqat rfl (by simp)
 by_cases h1 : (p.funcs.length : Int) ≤ f.func
 ·rw [if_pos (.inr h1)]
  refine aCalls_go Tryz.func66 rfl (by decide) Tryz.ntmps66 (by simp) false ?_
  have hres : Tryz.f66.results = #[.tmp 4] := rfl
  repeat' (first|(with_reducible first|refine bt ?_|refine bf ?_|(first|refine bc ?_ ?_|refine gc ?_ ?_|refine pc ?_ ?_)<;>intro _|refine And.intro ?_ ?_)|simp -implicitDefEqProofs(maxSteps:=2000000)(disch:=first|assumption|omega)[*, ])
  all_goals exact EndsE.eqat rfl (by simp)
 rw [if_neg (by omega)]
 have hx := ix_in (l := p.funcs) (i := f.func) (by omega) (by omega)
 have hk := kept_p (l := f.locals) (by omega)
 generalize keptK f.locals = b at *
 refine aCalls_go Tryz.func66 rfl (by decide) Tryz.ntmps66 (by simp) false ?_
 have hres : Tryz.f66.results = #[.tmp 4] := rfl
 repeat' (first|(with_reducible first|refine bt ?_|refine bf ?_|(first|refine bc ?_ ?_|refine gc ?_ ?_|refine pc ?_ ?_)<;>intro _|refine And.intro ?_ ?_|refine callE hk ?_)|simp -implicitDefEqProofs(maxSteps:=2000000)(disch:=first|assumption|omega)[*, ])
 all_goals exact EndsE.eqat (by simp [*]) (by simp)
set_option maxHeartbeats 8000000 in
theorem tmay_p {p : Prog} {t : Thr} (h1 : t.frames.length ≤ 1000000) (h2 : t.stack.length ≤ 1000000) (h3 : ∀ f ∈ t.frames, f.locals.length ≤ 1000000) : PureE Tryz.prog 32 [.agg [row p.funcs, .int .i64 p.mutexes, row p.conds, row p.semas, row p.chans, row p.choices, .int .i64 p.threads], .agg t.lv] (.bool (thrK p t)) := by
 refine .of fun s v => ?_
 have hk := kept_p (l := t.stack) (by omega)
 have hkp := keep_p t.on
 unfold thrK
 by_cases h0 : thrK0 t = true
 ·rw [if_pos h0]
  unfold thrK0 at h0
  obtain ⟨st, on, fr, sk, co⟩ := t
  simp only [Thr.lv] at hk hkp h0 h1 h2 ⊢
  generalize keptK sk = b at *
  generalize keep on = ko at *
  have hf1 : decide (8 < fr.length) = decide ((8 : Int) < fr.length) := by rw [decide_eq_decide]; omega
  have hf2 : decide (16 < sk.length) = decide ((16 : Int) < sk.length) := by rw [decide_eq_decide]; omega
  rw [hf1, hf2] at h0
  clear hf1 hf2 h1 h2 h3
  refine aCalls_go Tryz.func32 rfl (by decide) Tryz.ntmps32 (by simp) false ?_
  have hres : Tryz.f32.results = #[.tmp 4] := rfl
  repeat' (first|(with_reducible first|refine bt ?_|refine bf ?_|(first|refine bc ?_ ?_|refine gc ?_ ?_|refine pc ?_ ?_)<;>intro _|(refine dr P32 mixed ?_ ?_ ?_;kernel_rfl;kernel_rfl)|refine And.intro ?_ ?_|refine callE hk ?_|refine callE hkp ?_)|simp -implicitDefEqProofs(maxSteps:=2000000)(disch:=first|assumption|omega)[*, ])
  all_goals first | exact EndsE.eqat rfl (by simp) | (exfalso; revert h0; simp [*]; done) | (exfalso; revert h0; simp [*] <;> omega)
 rw [if_neg h0]
 simp only [thrK0, Bool.or_eq_true, decide_eq_true_eq, not_or, Bool.not_eq_true', Bool.not_eq_false, decide_eq_false_iff_not, Decidable.not_not] at h0
 obtain ⟨⟨⟨⟨⟨⟨⟨a1, a2⟩, a3⟩, a4⟩, a5⟩, a6⟩, a7⟩, a8⟩ := h0
 obtain ⟨st, on, fr, sk, co⟩ := t
 simp only [Thr.lv] at *
 rw [a7] at hk
 rw [← a8] at hkp
 have a5' : ¬ (8 : Int) < fr.length := by omega
 have a6' : ¬ (16 : Int) < sk.length := by omega
 clear a7 a8
 refine aCalls_go Tryz.func32 rfl (by decide) Tryz.ntmps32 (by simp) false ?_
 have hres : Tryz.f32.results = #[.tmp 4] := rfl
 repeat' (first|(with_reducible first|refine bt ?_|refine bf ?_|(first|refine bc ?_ ?_|refine gc ?_ ?_|refine pc ?_ ?_)<;>intro _|(refine dr P32 mixed ?_ ?_ ?_;kernel_rfl;kernel_rfl)|refine And.intro ?_ ?_|refine callE hk ?_|refine callE hkp ?_)|simp -implicitDefEqProofs(maxSteps:=2000000)(disch:=first|assumption|omega)[*, ])
 refine aW_for (β := Unit) false fr.length (fun k _ => ∀ j, j < k → frmK p (nth fr j) = true) (fun k _ => [(6, .int .i64 k), (53, .any), (54, .any), (55, .any), (56, .any), (57, .any), (60, .any), (61, .any), (62, .any), (63, .any), (64, .any), (65, .any), (66, .any), (7, .any), (67, .any), (68, .any), (4, .any), (58, .any), (59, .any)]) (fun _ _ => s ++ [.cells [row p.funcs, .int .i64 p.mutexes, row p.conds, row p.semas, row p.chans, row p.choices, .int .i64 p.threads], .cells [.int .i64 st, .int .i64 on, row fr, row sk, .int .i64 co]]) (fun _ _ => v) ?_ ?_
 ·exact ⟨(), by simp, by (refine Fits.of ?_ (Off.refl _ _); simp [upd_apply, upds_cons]), by simp, rfl⟩
 rintro k _ hk2 hI
 by_cases hlt : k < fr.length
 ·have hx := ix_in (l := fr) (i := (k : Int)) (by omega) (by omega)
  rw [Int.toNat_natCast] at hx
  have hfr := tframe_p (p := p) (f := nth fr k) (h3 _ (nth_mem hlt))
  have hbad : frmK p (nth fr k) = false → fr.all (frmK p) = false := fun h => allN_f hlt h
  have hgo : frmK p (nth fr k) = true → ∀ j, j < k + 1 → frmK p (nth fr j) = true := fun hy j hj => by
   by_cases e : j = k
   ·subst e; exact hy
   ·exact hI j (by omega)
  clear hI
  have hlt' : (k : Int) < fr.length := by omega
  generalize frmK p (nth fr k) = b at *
  cases b
  ·rw [if_pos (hbad rfl)]
   clear hbad hgo
   repeat' (first|(with_reducible first|refine bt ?_|refine bf ?_|(first|refine bc ?_ ?_|refine gc ?_ ?_|refine pc ?_ ?_)<;>intro _|(refine dr P32 mixed ?_ ?_ ?_;kernel_rfl;kernel_rfl)|refine And.intro ?_ ?_|refine callE hfr ?_)|simp -implicitDefEqProofs(maxSteps:=2000000)(disch:=first|assumption|omega)[*, ])
   all_goals exact EndsE.eqat rfl (by simp)
  ·have hg := hgo rfl
   clear hbad hgo
   repeat' (first|(with_reducible first|refine bt ?_|refine bf ?_|(first|refine bc ?_ ?_|refine gc ?_ ?_|refine pc ?_ ?_)<;>intro _|(refine dr P32 mixed ?_ ?_ ?_;kernel_rfl;kernel_rfl)|refine And.intro ?_ ?_|refine callE hfr ?_)|simp -implicitDefEqProofs(maxSteps:=2000000)(disch:=first|assumption|omega)[*, ])
   all_goals exact ⟨hlt, (), hg, by (refine Fits.of ?_ ?_; rotate_left; (repeat (first | with_reducible exact Off.refl _ _ | refine Off.upd rfl ?_ | refine Off.updO rfl ?_ | refine Off.upds rfl ?_)); simp [upd_apply, upds_cons]), by simp, rfl⟩
 ·have : k = fr.length := by omega
  subst this
  rw [if_neg (by rw [allN_t (f := frmK p) hI]; simp)]
  clear hI h3
  by_cases e9 : st = 9
  ·rw [if_pos e9]
   by_cases b1 : fr.length = 0
   ·have b1' : (fr.length : Int) = 0 := by omega
    repeat' (first|(with_reducible first|refine bt ?_|refine bf ?_|(first|refine bc ?_ ?_|refine gc ?_ ?_|refine pc ?_ ?_)<;>intro _|(refine dr P32 mixed ?_ ?_ ?_;kernel_rfl;kernel_rfl)|refine And.intro ?_ ?_)|simp -implicitDefEqProofs(maxSteps:=2000000)(disch:=first|assumption|omega)[*, ])
    all_goals exact EndsE.eqat (by simp [*]) (by simp)
   ·have b1' : ¬ (fr.length : Int) = 0 := by omega
    repeat' (first|(with_reducible first|refine bt ?_|refine bf ?_|(first|refine bc ?_ ?_|refine gc ?_ ?_|refine pc ?_ ?_)<;>intro _|(refine dr P32 mixed ?_ ?_ ?_;kernel_rfl;kernel_rfl)|refine And.intro ?_ ?_)|simp -implicitDefEqProofs(maxSteps:=2000000)(disch:=first|assumption|omega)[*, ])
    all_goals exact EndsE.eqat (by simp [*]) (by simp)
  ·rw [if_neg e9]
   by_cases b1 : 0 < fr.length
   ·have b1' : (0 : Int) < fr.length := by omega
    repeat' (first|(with_reducible first|refine bt ?_|refine bf ?_|(first|refine bc ?_ ?_|refine gc ?_ ?_|refine pc ?_ ?_)<;>intro _|(refine dr P32 mixed ?_ ?_ ?_;kernel_rfl;kernel_rfl)|refine And.intro ?_ ?_)|simp -implicitDefEqProofs(maxSteps:=2000000)(disch:=first|assumption|omega)[*, ])
    all_goals exact EndsE.eqat (by simp [*]) (by simp)
   ·have b1' : ¬ (0 : Int) < fr.length := by omega
    repeat' (first|(with_reducible first|refine bt ?_|refine bf ?_|(first|refine bc ?_ ?_|refine gc ?_ ?_|refine pc ?_ ?_)<;>intro _|(refine dr P32 mixed ?_ ?_ ?_;kernel_rfl;kernel_rfl)|refine And.intro ?_ ?_)|simp -implicitDefEqProofs(maxSteps:=2000000)(disch:=first|assumption|omega)[*, ])
    all_goals exact EndsE.eqat (by simp [*]) (by simp)
end Go.Hb
end

