/-
  A layer for reasoning about the program's calls, and contracts of its functions (NC). CONDITIONS: none; each theorem bears its own.
-/
import Derived.Test.YtdnbmcnckojglaaGreatNB
set_option linter.unusedVariables false
set_option linter.unusedSimpArgs false
namespace Go.Hb
open Go Go.Proofs Go.RowKit
set_option maxRecDepth 100000
set_option maxHeartbeats 800000
attribute [-simp] aC aL aOper aThen aInBlock aIf aPlan aAppend aLen aIndexAddr aSlice aCells aBounds lBr aq initT aev aAppendOwn aAppendNil aAppendNew aAppendRef LV.cells LV.cellsOk getElem?_pos getElem?_neg
theorem stands_no {p : Prog} {c : Cor} {i r : Int} {k : Nat} (hr : r ∈ [(3 : Int), 4, 5, 6, 7]) (hk : k < (rowsC c r).length) (h : standsK p c i r k = false) : standsC p c i = false := by
 unfold standsC
 rw [Bool.and_eq_false_iff]
 right
 rw [← Bool.not_eq_true, List.all_eq_true]
 intro ha
 have := ha r hr
 unfold standsR at this
 rw [List.all_eq_true] at this
 have := this k (by simpa using hk)
 rw [h] at this; cases this
theorem stands_yes {p : Prog} {c : Cor} {i : Int} (ho : onC p c (at' c.threads i) = true) (h : ∀ j, j < 5 → standsR p c i (nth [(3 : Int), 4, 5, 6, 7] j) = true) : standsC p c i = true := by
 unfold standsC
 rw [ho, Bool.true_and, List.all_eq_true]
 intro r hr
 obtain ⟨j, hj, rfl⟩ := List.getElem_of_mem hr
 rw [← nth_eq hj]
 exact h j (by simpa using hj)
set_option maxHeartbeats 16000000 in
theorem vstands_p {p : Prog} {c : Cor} {i : Int} (h : ShC p c) (h0 : 0 ≤ i) (h1 : i < c.threads.length) : PureC Tryz.prog 72 [.agg [row p.funcs, .int .i64 p.mutexes, row p.conds, row p.semas, row p.chans, row p.choices, .int .i64 p.threads, .int .i64 c.now, row c.threads, row c.owners, row c.counts, row c.bufs, row c.lockq, row c.waitq, row c.downq, row c.sendq, row c.recvq], .int .i64 i] (.bool (standsC p c i)) := by
 refine .of fun s v => ?_
 have hx := ix_in h0 h1
 have hon := von_p h h0 h1
 have hth : at' c.threads i = nth c.threads i.toNat := rfl
 cases ho : onC p c (nth c.threads i.toNat)
 ·rw [show standsC p c i = false by unfold standsC; rw [hth, ho]; rfl]
  rw [ho] at hon
  refine aCalls_go Tryz.func72 rfl (by decide) Tryz.ntmps72 (by simp) false ?_
  have hres : Tryz.f72.results = #[.tmp 4] := rfl
  repeat' (first|(with_reducible first|refine bt ?_|refine bf ?_|(first|refine bc ?_ ?_|refine gc ?_ ?_|refine pc ?_ ?_)<;>intro _|refine callC hon (fun v2 hv2 => ?_))|simp -implicitDefEqProofs(maxSteps:=2000000)(disch:=first|assumption|omega)[*, ])
  all_goals exact Ends.eqat rfl (by simp) hv2
 rw [ho] at hon
 have hcho : (nth c.threads i.toNat).state = 8 → 0 ≤ (nth c.threads i.toNat).on ∧ (nth c.threads i.toNat).on < p.choices.length := fun h8 => by
  unfold onC waitsC thingsC at ho
  rw [h8] at ho
  simpa using ho
 have hmu : ∀ r k, must p (at' c.threads i).state (at' c.threads i).on r k = must p (nth c.threads i.toNat).state (nth c.threads i.toNat).on r k := fun _ _ => rfl
 refine aCalls_go Tryz.func72 rfl (by decide) Tryz.ntmps72 (by simp) false ?_
 have hres : Tryz.f72.results = #[.tmp 4] := rfl
 repeat' (first|(with_reducible first|refine bt ?_|refine bf ?_|(first|refine bc ?_ ?_|refine gc ?_ ?_|refine pc ?_ ?_)<;>intro _|refine callC hon (fun v2 hv2 => ?_))|simp -implicitDefEqProofs(maxSteps:=2000000)(disch:=first|assumption|omega)[*, ])
 generalize hR : standsC p c i = R
 refine aW_for0 (β := List Nat) false 5 (fun j v3 => v <+: v3 ∧ ∀ j', j' < j → standsR p c i (nth [(3 : Int), 4, 5, 6, 7] j') = true) (fun j v3 => [(24, .int .i64 j), (25, .any), (26, .any), (27, .any), (7, .any), (28, .any), (29, .any), (30, .any), (31, .any), (32, .any), (33, .any), (34, .any), (35, .any), (36, .any), (8, .any), (9, .any), (37, .any), (38, .any), (39, .any), (40, .any), (41, .any), (42, .any), (43, .any), (44, .any), (45, .any), (46, .any), (47, .any), (48, .any), (49, .any), (50, .any), (51, .any), (52, .any), (53, .any), (54, .any), (55, .any), (56, .any), (57, .any), (58, .any), (59, .any), (60, .any), (61, .any), (62, .any), (63, .any), (64, .any), (65, .any), (66, .any), (10, .any), (67, .any), (68, .any), (69, .any), (11, .any), (70, .any), (71, .any), (72, .any), (73, .any), (74, .any), (75, .any), (76, .any), (77, .any), (4, .any), (78, .any), (79, .any)]) (fun _ v3 => v3) ⟨v2, ⟨hv2, by simp⟩, by (refine Fits.of ?_ (Off.refl _ _); simp [upd_apply, upds_cons]), rfl⟩ ?_
 rintro j v3 hj ⟨hv3, hI⟩
 by_cases hj5 : j < 5
 ·obtain ⟨r, hr, hdr⟩ : ∃ r, r = nth [(3 : Int), 4, 5, 6, 7] j ∧ List.take 1 (List.drop j [LV.int .i64 3, .int .i64 4, .int .i64 5, .int .i64 6, .int .i64 7]) = [.int .i64 r] := by
   match j, hj5 with
   | 0, _ => exact ⟨_, rfl, rfl⟩
   | 1, _ => exact ⟨_, rfl, rfl⟩
   | 2, _ => exact ⟨_, rfl, rfl⟩
   | 3, _ => exact ⟨_, rfl, rfl⟩
   | 4, _ => exact ⟨_, rfl, rfl⟩
  have hrm : r ∈ [(3 : Int), 4, 5, 6, 7] := by rw [hr]; exact nth_mem (by simpa using hj5)
  have hr8 : ¬ r = 8 := by simp at hrm; omega
  have hrw := vrow_p h r
  have hrb := h.rows r
  have hrn := hrb.1
  have hr' : nth [(3 : Int), 4, 5, 6, 7] j = r := hr.symm
  clear hr
  have hj5' : (j : Int) < 5 := by omega
  have hon8 := hcho
  clear hcho hmu hth ho
  repeat' (first|(with_reducible first|refine bt ?_|refine bf ?_|(first|refine bc ?_ ?_|refine gc ?_ ?_|refine pc ?_ ?_)<;>intro _|refine callC hrw (fun v4 hv4 => ?_))|simp -implicitDefEqProofs(maxSteps:=2000000)(disch:=first|assumption|omega)[*, ])
  refine aWl_for0 (β := Unit) false (rowsC c r).length (fun k _ => ∀ k', k' < k → standsK p c i r k' = true) (fun k _ => [(32, .int .i64 k), (33, .any), (34, .any), (35, .any), (36, .any), (8, .any), (9, .any), (37, .any), (38, .any), (39, .any), (40, .any), (41, .any), (42, .any), (43, .any), (44, .any), (45, .any), (46, .any), (47, .any), (48, .any), (49, .any), (50, .any), (51, .any), (52, .any), (53, .any), (54, .any), (55, .any), (56, .any), (57, .any), (58, .any), (59, .any), (60, .any), (61, .any), (62, .any), (63, .any), (64, .any), (65, .any), (66, .any), (10, .any), (67, .any), (68, .any), (69, .any), (11, .any), (70, .any), (71, .any), (72, .any), (73, .any), (74, .any), (75, .any), (76, .any), (77, .any), (4, .any), (78, .any)]) (fun _ _ => v4) ⟨(), by simp, by (refine Fits.of ?_ (Off.refl _ _); simp [upd_apply, upds_cons]), rfl⟩ ?_
  rintro k _ hk hK
  by_cases hlt : k < (rowsC c r).length
  ·have hxk := ix_in (l := rowsC c r) (i := (k : Int)) (by omega) (by omega)
   have hlb := hrb.2 _ (nth_mem hlt)
   have hct := count_p (l := nth (rowsC c r) k) (x := i) (by omega)
   have hsk : standsK p c i r k = (!decide (1 < (nth (rowsC c r) k).count i) && (must p (nth c.threads i.toNat).state (nth c.threads i.toNat).on r k == decide ((nth (rowsC c r) k).count i = 1))) := rfl
   have hno := stands_no (p := p) (c := c) (i := i) hrm hlt
   have hnext : standsK p c i r k = true → ∀ k', k' < k + 1 → standsK p c i r k' = true := fun hk1 k' hk' => by
    by_cases e : k' = k
    ·subst e; exact hk1
    ·exact hK k' (by omega)
   generalize (nth (rowsC c r) k).count i = n at *
   clear hI
   generalize nth c.threads i.toNat = th at *
   obtain ⟨st, on, fr, sk, co⟩ := th
   simp only at hsk hon8 hx ⊢
   by_cases a1 : st = r
   ·subst a1
    by_cases a2 : on = k
    ·subst a2
     have hm : must p st k st k = true := by unfold must; simp
     rw [hm] at hsk
     clear hm
     by_cases n1 : 1 < n
     ·have hf := hno (by rw [hsk]; simp [n1])
      rw [hR] at hf; subst hf
      clear hno hnext hsk
      have n1i : (1 : Int) < (n : Int) := by omega
      repeat' (first|(with_reducible first|refine bt ?_|refine bf ?_|(first|refine bc ?_ ?_|refine gc ?_ ?_|refine pc ?_ ?_)<;>intro _|refine callE hct ?_)|simp -implicitDefEqProofs(maxSteps:=2000000)(disch:=first|assumption|omega)[*, ])
      all_goals exact Ends.eqat rfl (by simp) (hv3.trans hv4)
     by_cases n2 : n = 1
     ·have hnx := hnext (by rw [hsk]; simp [n2])
      clear hno hnext hsk
      have n1i : ¬ (1 : Int) < (n : Int) := by omega
      repeat' (first|(with_reducible first|refine bt ?_|refine bf ?_|(first|refine bc ?_ ?_|refine gc ?_ ?_|refine pc ?_ ?_)<;>intro _|refine callE hct ?_)|simp -implicitDefEqProofs(maxSteps:=2000000)(disch:=first|assumption|omega)[*, ])
      all_goals exact ⟨hlt, (), hnx, by (refine Fits.of ?_ ?_; rotate_left; (repeat (first | with_reducible exact Off.refl _ _ | refine Off.upd rfl ?_ | refine Off.updO rfl ?_ | refine Off.upds rfl ?_)); simp [upd_apply, upds_cons]), rfl, rfl⟩
     ·have hf := hno (by rw [hsk]; simp [n1, n2])
      rw [hR] at hf; subst hf
      clear hno hnext hsk
      have n1i : ¬ (1 : Int) < (n : Int) := by omega
      have n2i : ¬ (n : Int) = 1 := by omega
      repeat' (first|(with_reducible first|refine bt ?_|refine bf ?_|(first|refine bc ?_ ?_|refine gc ?_ ?_|refine pc ?_ ?_)<;>intro _|refine callE hct ?_)|simp -implicitDefEqProofs(maxSteps:=2000000)(disch:=first|assumption|omega)[*, ])
      all_goals exact Ends.eqat rfl (by simp) (hv3.trans hv4)
    ·have hm : must p st on st k = false := by unfold must; simp [a2, hr8]
     rw [hm] at hsk
     clear hm
     by_cases n1 : 1 < n
     ·have hf := hno (by rw [hsk]; simp [n1])
      rw [hR] at hf; subst hf
      clear hno hnext hsk
      have n1i : (1 : Int) < (n : Int) := by omega
      repeat' (first|(with_reducible first|refine bt ?_|refine bf ?_|(first|refine bc ?_ ?_|refine gc ?_ ?_|refine pc ?_ ?_)<;>intro _|refine callE hct ?_)|simp -implicitDefEqProofs(maxSteps:=2000000)(disch:=first|assumption|omega)[*, ])
      all_goals exact Ends.eqat rfl (by simp) (hv3.trans hv4)
     by_cases n2 : n = 1
     ·have hf := hno (by rw [hsk]; simp [n2])
      rw [hR] at hf; subst hf
      clear hno hnext hsk
      have n1i : ¬ (1 : Int) < (n : Int) := by omega
      repeat' (first|(with_reducible first|refine bt ?_|refine bf ?_|(first|refine bc ?_ ?_|refine gc ?_ ?_|refine pc ?_ ?_)<;>intro _|refine callE hct ?_)|simp -implicitDefEqProofs(maxSteps:=2000000)(disch:=first|assumption|omega)[*, ])
      all_goals exact Ends.eqat rfl (by simp) (hv3.trans hv4)
     ·have hnx := hnext (by rw [hsk]; simp [n1, n2])
      clear hno hnext hsk
      have n1i : ¬ (1 : Int) < (n : Int) := by omega
      have n2i : ¬ (n : Int) = 1 := by omega
      repeat' (first|(with_reducible first|refine bt ?_|refine bf ?_|(first|refine bc ?_ ?_|refine gc ?_ ?_|refine pc ?_ ?_)<;>intro _|refine callE hct ?_)|simp -implicitDefEqProofs(maxSteps:=2000000)(disch:=first|assumption|omega)[*, ])
      all_goals exact ⟨hlt, (), hnx, by (refine Fits.of ?_ ?_; rotate_left; (repeat (first | with_reducible exact Off.refl _ _ | refine Off.upd rfl ?_ | refine Off.updO rfl ?_ | refine Off.upds rfl ?_)); simp [upd_apply, upds_cons]), rfl, rfl⟩
   ·by_cases a3 : st = 8
    ·subst a3
     by_cases a4 : r = 7
     ·subst a4
      have hob := hon8 rfl
      have hxo := ix_in hob.1 hob.2
      have hcl := h.choices.2 _ (at_in hob.1 hob.2)
      have hcp := contains_p (l := nth p.choices on.toNat) (x := (k : Int)) (by unfold at' at hcl; omega)
      have hm : must p 8 on 7 k = decide ((k : Int) ∈ nth p.choices on.toNat) := by unfold must at'; simp
      clear hcl
      generalize decide ((k : Int) ∈ nth p.choices on.toNat) = b at *
      cases b
      ·skip
       rw [hm] at hsk
       clear hm
       by_cases n1 : 1 < n
       ·have hf := hno (by rw [hsk]; simp [n1])
        rw [hR] at hf; subst hf
        clear hno hnext hsk
        have n1i : (1 : Int) < (n : Int) := by omega
        repeat' (first|(with_reducible first|refine bt ?_|refine bf ?_|(first|refine bc ?_ ?_|refine gc ?_ ?_|refine pc ?_ ?_)<;>intro _|refine callE hct ?_|refine callE hcp ?_)|simp -implicitDefEqProofs(maxSteps:=2000000)(disch:=first|assumption|omega)[*, ])
        all_goals exact Ends.eqat rfl (by simp) (hv3.trans hv4)
       by_cases n2 : n = 1
       ·have hf := hno (by rw [hsk]; simp [n2])
        rw [hR] at hf; subst hf
        clear hno hnext hsk
        have n1i : ¬ (1 : Int) < (n : Int) := by omega
        repeat' (first|(with_reducible first|refine bt ?_|refine bf ?_|(first|refine bc ?_ ?_|refine gc ?_ ?_|refine pc ?_ ?_)<;>intro _|refine callE hct ?_|refine callE hcp ?_)|simp -implicitDefEqProofs(maxSteps:=2000000)(disch:=first|assumption|omega)[*, ])
        all_goals exact Ends.eqat rfl (by simp) (hv3.trans hv4)
       ·have hnx := hnext (by rw [hsk]; simp [n1, n2])
        clear hno hnext hsk
        have n1i : ¬ (1 : Int) < (n : Int) := by omega
        have n2i : ¬ (n : Int) = 1 := by omega
        repeat' (first|(with_reducible first|refine bt ?_|refine bf ?_|(first|refine bc ?_ ?_|refine gc ?_ ?_|refine pc ?_ ?_)<;>intro _|refine callE hct ?_|refine callE hcp ?_)|simp -implicitDefEqProofs(maxSteps:=2000000)(disch:=first|assumption|omega)[*, ])
        all_goals exact ⟨hlt, (), hnx, by (refine Fits.of ?_ ?_; rotate_left; (repeat (first | with_reducible exact Off.refl _ _ | refine Off.upd rfl ?_ | refine Off.updO rfl ?_ | refine Off.upds rfl ?_)); simp [upd_apply, upds_cons]), rfl, rfl⟩
      ·skip
       rw [hm] at hsk
       clear hm
       by_cases n1 : 1 < n
       ·have hf := hno (by rw [hsk]; simp [n1])
        rw [hR] at hf; subst hf
        clear hno hnext hsk
        have n1i : (1 : Int) < (n : Int) := by omega
        repeat' (first|(with_reducible first|refine bt ?_|refine bf ?_|(first|refine bc ?_ ?_|refine gc ?_ ?_|refine pc ?_ ?_)<;>intro _|refine callE hct ?_|refine callE hcp ?_)|simp -implicitDefEqProofs(maxSteps:=2000000)(disch:=first|assumption|omega)[*, ])
        all_goals exact Ends.eqat rfl (by simp) (hv3.trans hv4)
       by_cases n2 : n = 1
       ·have hnx := hnext (by rw [hsk]; simp [n2])
        clear hno hnext hsk
        have n1i : ¬ (1 : Int) < (n : Int) := by omega
        repeat' (first|(with_reducible first|refine bt ?_|refine bf ?_|(first|refine bc ?_ ?_|refine gc ?_ ?_|refine pc ?_ ?_)<;>intro _|refine callE hct ?_|refine callE hcp ?_)|simp -implicitDefEqProofs(maxSteps:=2000000)(disch:=first|assumption|omega)[*, ])
        all_goals exact ⟨hlt, (), hnx, by (refine Fits.of ?_ ?_; rotate_left; (repeat (first | with_reducible exact Off.refl _ _ | refine Off.upd rfl ?_ | refine Off.updO rfl ?_ | refine Off.upds rfl ?_)); simp [upd_apply, upds_cons]), rfl, rfl⟩
       ·have hf := hno (by rw [hsk]; simp [n1, n2])
        rw [hR] at hf; subst hf
        clear hno hnext hsk
        have n1i : ¬ (1 : Int) < (n : Int) := by omega
        have n2i : ¬ (n : Int) = 1 := by omega
        repeat' (first|(with_reducible first|refine bt ?_|refine bf ?_|(first|refine bc ?_ ?_|refine gc ?_ ?_|refine pc ?_ ?_)<;>intro _|refine callE hct ?_|refine callE hcp ?_)|simp -implicitDefEqProofs(maxSteps:=2000000)(disch:=first|assumption|omega)[*, ])
        all_goals exact Ends.eqat rfl (by simp) (hv3.trans hv4)
     ·have hm : must p 8 on r k = false := by unfold must; simp [a1, a4]
      rw [hm] at hsk
      clear hm
      by_cases n1 : 1 < n
      ·have hf := hno (by rw [hsk]; simp [n1])
       rw [hR] at hf; subst hf
       clear hno hnext hsk
       have n1i : (1 : Int) < (n : Int) := by omega
       repeat' (first|(with_reducible first|refine bt ?_|refine bf ?_|(first|refine bc ?_ ?_|refine gc ?_ ?_|refine pc ?_ ?_)<;>intro _|refine callE hct ?_)|simp -implicitDefEqProofs(maxSteps:=2000000)(disch:=first|assumption|omega)[*, ])
       all_goals exact Ends.eqat rfl (by simp) (hv3.trans hv4)
      by_cases n2 : n = 1
      ·have hf := hno (by rw [hsk]; simp [n2])
       rw [hR] at hf; subst hf
       clear hno hnext hsk
       have n1i : ¬ (1 : Int) < (n : Int) := by omega
       repeat' (first|(with_reducible first|refine bt ?_|refine bf ?_|(first|refine bc ?_ ?_|refine gc ?_ ?_|refine pc ?_ ?_)<;>intro _|refine callE hct ?_)|simp -implicitDefEqProofs(maxSteps:=2000000)(disch:=first|assumption|omega)[*, ])
       all_goals exact Ends.eqat rfl (by simp) (hv3.trans hv4)
      ·have hnx := hnext (by rw [hsk]; simp [n1, n2])
       clear hno hnext hsk
       have n1i : ¬ (1 : Int) < (n : Int) := by omega
       have n2i : ¬ (n : Int) = 1 := by omega
       repeat' (first|(with_reducible first|refine bt ?_|refine bf ?_|(first|refine bc ?_ ?_|refine gc ?_ ?_|refine pc ?_ ?_)<;>intro _|refine callE hct ?_)|simp -implicitDefEqProofs(maxSteps:=2000000)(disch:=first|assumption|omega)[*, ])
       all_goals exact ⟨hlt, (), hnx, by (refine Fits.of ?_ ?_; rotate_left; (repeat (first | with_reducible exact Off.refl _ _ | refine Off.upd rfl ?_ | refine Off.updO rfl ?_ | refine Off.upds rfl ?_)); simp [upd_apply, upds_cons]), rfl, rfl⟩
    ·have hm : must p st on r k = false := by unfold must; simp [a1, a3]
     rw [hm] at hsk
     clear hm
     by_cases n1 : 1 < n
     ·have hf := hno (by rw [hsk]; simp [n1])
      rw [hR] at hf; subst hf
      clear hno hnext hsk
      have n1i : (1 : Int) < (n : Int) := by omega
      repeat' (first|(with_reducible first|refine bt ?_|refine bf ?_|(first|refine bc ?_ ?_|refine gc ?_ ?_|refine pc ?_ ?_)<;>intro _|refine callE hct ?_)|simp -implicitDefEqProofs(maxSteps:=2000000)(disch:=first|assumption|omega)[*, ])
      all_goals exact Ends.eqat rfl (by simp) (hv3.trans hv4)
     by_cases n2 : n = 1
     ·have hf := hno (by rw [hsk]; simp [n2])
      rw [hR] at hf; subst hf
      clear hno hnext hsk
      have n1i : ¬ (1 : Int) < (n : Int) := by omega
      repeat' (first|(with_reducible first|refine bt ?_|refine bf ?_|(first|refine bc ?_ ?_|refine gc ?_ ?_|refine pc ?_ ?_)<;>intro _|refine callE hct ?_)|simp -implicitDefEqProofs(maxSteps:=2000000)(disch:=first|assumption|omega)[*, ])
      all_goals exact Ends.eqat rfl (by simp) (hv3.trans hv4)
     ·have hnx := hnext (by rw [hsk]; simp [n1, n2])
      clear hno hnext hsk
      have n1i : ¬ (1 : Int) < (n : Int) := by omega
      have n2i : ¬ (n : Int) = 1 := by omega
      repeat' (first|(with_reducible first|refine bt ?_|refine bf ?_|(first|refine bc ?_ ?_|refine gc ?_ ?_|refine pc ?_ ?_)<;>intro _|refine callE hct ?_)|simp -implicitDefEqProofs(maxSteps:=2000000)(disch:=first|assumption|omega)[*, ])
      all_goals exact ⟨hlt, (), hnx, by (refine Fits.of ?_ ?_; rotate_left; (repeat (first | with_reducible exact Off.refl _ _ | refine Off.upd rfl ?_ | refine Off.updO rfl ?_ | refine Off.upds rfl ?_)); simp [upd_apply, upds_cons]), rfl, rfl⟩
  ·have hke : k = (rowsC c r).length := by omega
   subst hke
   have hsr : standsR p c i r = true := by unfold standsR; rw [List.all_eq_true]; intro k hk; exact hK k (by simpa using hk)
   have hI2 : ∀ j', j' < j + 1 → standsR p c i (nth [(3 : Int), 4, 5, 6, 7] j') = true := fun j' hj' => by
    by_cases e : j' = j
    ·subst e; rw [hr']; exact hsr
    ·exact hI j' (by omega)
   clear hI hK
   repeat' (first|(with_reducible first|refine bt ?_|refine bf ?_|(first|refine bc ?_ ?_|refine gc ?_ ?_|refine pc ?_ ?_)<;>intro _)|simp -implicitDefEqProofs(maxSteps:=2000000)(disch:=first|assumption|omega)[*, ])
   exact ⟨hj5, v4, ⟨hv3.trans hv4, hI2⟩, by (refine Fits.of ?_ ?_; rotate_left; (repeat (first | with_reducible exact Off.refl _ _ | refine Off.upd rfl ?_ | refine Off.updO rfl ?_ | refine Off.upds rfl ?_)); simp [upd_apply, upds_cons]), rfl, rfl⟩
 ·have hje : j = 5 := by omega
  subst hje
  have hyes : R = true := by rw [← hR]; exact stands_yes ho hI
  subst hyes
  repeat' (first|(with_reducible first|refine bt ?_|refine bf ?_|(first|refine bc ?_ ?_|refine gc ?_ ?_|refine pc ?_ ?_)<;>intro _)|simp -implicitDefEqProofs(maxSteps:=2000000)(disch:=first|assumption|omega)[*, ])
  all_goals exact Ends.eqat rfl (by simp) hv3
end Go.Hb
