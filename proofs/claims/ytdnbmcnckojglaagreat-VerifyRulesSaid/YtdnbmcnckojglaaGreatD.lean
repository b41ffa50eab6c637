/-
  A layer for reasoning about the program's calls, and contracts of its functions (D). CONDITIONS: none; each theorem bears its own.
-/
import Derived.Test.YtdnbmcnckojglaaGreatA
set_option linter.unusedVariables false
set_option linter.unusedSimpArgs false
namespace Go.Hb
open Go Go.Proofs Go.RowKit
set_option maxRecDepth 100000
set_option maxHeartbeats 800000
attribute [-simp] aC aL aOper aThen aInBlock aIf aPlan aAppend aLen aIndexAddr aSlice aCells aBounds lBr aq initT aev aAppendOwn aAppendNil aAppendNew aAppendRef LV.cells LV.cellsOk getElem?_pos getElem?_neg

theorem all_false {α : Type} [Enc α] {l : List α} {p : α → Bool} {k : Nat} (h : k < l.length) (hp : p (nth l k) = false) : l.all p = false := by
 rw [List.all_eq_false]
 refine ⟨nth l k, by rw [nth_eq h]; exact List.getElem_mem h, by simp [hp]⟩
theorem all_succ {α : Type} [Enc α] {l : List α} {p : α → Bool} {k : Nat} (h : k < l.length) (hp : p (nth l k) = true) (hk : (l.take k).all p = true) : (l.take (k + 1)).all p = true := by
 rw [take_succ_nth h, List.all_append, hk]; simp [hp]

set_option maxHeartbeats 8000000 in
theorem refMay_p {fs : List Fn_} {mu th : Int} {co se ch : List Int} {cho : List (List Int)} (h1 : fs.length ≤ 9223372036854775807) (h2 : co.length ≤ 9223372036854775807) (h3 : se.length ≤ 9223372036854775807) (h4 : ch.length ≤ 9223372036854775807) (h5 : cho.length ≤ 9223372036854775807)
  (h6 : ∀ l ∈ cho, l.length ≤ 9223372036854775807) (hmu : I64 mu) :
  PureE Tryz.prog 31 [.agg [row fs, .int .i64 mu, row co, row se, row ch, row cho, .int .i64 th]] (.bool (mayP ⟨fs, mu, co, se, ch, cho, th⟩)) := by
 refine .of fun s v => ?_
 obtain ⟨hm1, hm2⟩ := hmu
 obtain ⟨p, hp⟩ : ∃ p : Prog, (⟨fs, mu, co, se, ch, cho, th⟩ : Prog) = p := ⟨_, rfl⟩
 have hall : ∀ (A B C : Bool), mayP p = (decide (1 ≤ fs.length) && decide (fs.length ≤ 16) && decide (0 ≤ mu) && decide (mu ≤ 8) && decide (co.length ≤ 8) && decide (se.length ≤ 8) && decide (ch.length ≤ 8) && decide (cho.length ≤ 8)
   && decide (1 ≤ th) && decide (th ≤ 32) && allTo co (mu - 1) && allTo se 100 && allTo ch 8 && cho.all (mayCh p) && fs.all (mayF p)) := fun _ _ _ => by subst hp; rfl
 rw [hp, hall false false false]
 clear hall
 refine aCalls_go Tryz.func31 rfl (by decide) Tryz.ntmps31 (by simp) false ?_
 have hres : Tryz.f31.results = #[.tmp 2] := rfl
 by_cases hmn : mu < 0
 ·repeat' (first|(with_reducible first|refine bt ?_|refine bf ?_|(first|refine bc ?_ ?_|refine gc ?_ ?_|refine pc ?_ ?_)<;>intro _|(refine dr P31 mixed ?_ ?_ ?_;kernel_rfl;kernel_rfl))|simp -implicitDefEqProofs(maxSteps:=2000000)(disch:=first|assumption|omega)[*, ])
  all_goals first | (first | (exfalso; omega) | ((try subst_vars); (first | refine EndsE.eq ?_ (by simp) | refine EndsE.eqat ?_ (by simp)); (first | with_reducible rfl | (simp [*, ]; done) | (simp [*, ]; omega) | (simp only [LV.bool.injEq]; rw [Bool.eq_iff_iff]; simp [*, ]; done) | (simp only [LV.bool.injEq]; rw [Bool.eq_iff_iff]; simp [*, ]; omega) | (simp only [LV.bool.injEq]; rw [Bool.eq_iff_iff]; simp (disch := omega) only [if_pos, if_neg, if_true, if_false, *, ]; simp <;> omega) | (simp only [LV.bool.injEq, Bool.and_eq_false_imp, Bool.and_eq_true, decide_eq_true_eq]; intros; exfalso; omega) | (simp only [LV.bool.injEq, Bool.and_eq_false_imp, Bool.and_eq_true, decide_eq_true_eq]; intros; simp_all; done))))
 repeat' (first|(with_reducible first|refine bt ?_|refine bf ?_|(first|refine bc ?_ ?_|refine gc ?_ ?_|refine pc ?_ ?_)<;>intro _|(refine dr P31 mixed ?_ ?_ ?_;kernel_rfl;kernel_rfl)|refine callE (all_p h2) ?_|refine callE (all_p h3) ?_|refine callE (all_p h4) ?_)|simp -implicitDefEqProofs(maxSteps:=2000000)(disch:=first|assumption|omega)[*, ])
 all_goals first | (first | (exfalso; omega) | ((try subst_vars); (first | refine EndsE.eq ?_ (by simp) | refine EndsE.eqat ?_ (by simp)); (first | with_reducible rfl | (simp [*, ]; done) | (simp [*, ]; omega) | (simp only [LV.bool.injEq]; rw [Bool.eq_iff_iff]; simp [*, ]; done) | (simp only [LV.bool.injEq]; rw [Bool.eq_iff_iff]; simp [*, ]; omega) | (simp only [LV.bool.injEq]; rw [Bool.eq_iff_iff]; simp (disch := omega) only [if_pos, if_neg, if_true, if_false, *, ]; simp <;> omega) | (simp only [LV.bool.injEq, Bool.and_eq_false_imp, Bool.and_eq_true, decide_eq_true_eq]; intros; exfalso; omega) | (simp only [LV.bool.injEq, Bool.and_eq_false_imp, Bool.and_eq_true, decide_eq_true_eq]; intros; simp_all; done)))) | skip
 refine aW_for (β := Unit) false cho.length (fun k _ => (cho.take k).all (mayCh p) = true) (fun k _ => [(6, .int .i64 k), (88, .any), (89, .any), (90, .any), (91, .any), (92, .any), (95, .any), (96, .any), (97, .any), (98, .any), (99, .any), (100, .any), (101, .any), (7, .any), (102, .any), (103, .any), (2, .any), (93, .any), (94, .any)]) (fun _ _ => s ++ [.cells [row fs, .int .i64 mu, row co, row se, row ch, row cho, .int .i64 th]]) (fun _ _ => v) ?_ ?_
 ·exact ⟨(), by simp, by (refine Fits.of ?_ (Off.refl _ _); simp [upd_apply, upds_cons]), rfl, rfl⟩
 intro k _ hk hI
 by_cases hlt : k < cho.length
 ·have hch := h6 (nth cho k) (by rw [nth_eq hlt]; exact List.getElem_mem hlt)
  have hspec : (allTo (nth cho k) (ch.length - 1) && decide (nth cho k).Nodup && decide (1 ≤ (nth cho k).length) && decide ((nth cho k).length ≤ 8)) = mayCh p (nth cho k) := by subst hp; rfl
  have hc := choice_p (xf := row fs) (xc := row co) (xs := row se) (xo := row cho) (mu := mu) (th := th) (ch := ch) hch h4
  rw [hspec] at hc
  cases hm : mayCh p (nth cho k)
  ·have := all_false hlt hm
   rw [hm] at hc
   repeat' (first|(with_reducible first|refine bt ?_|refine bf ?_|(first|refine bc ?_ ?_|refine gc ?_ ?_|refine pc ?_ ?_)<;>intro _|(refine dr P31 mixed ?_ ?_ ?_;kernel_rfl;kernel_rfl)|refine callE hc ?_)|simp -implicitDefEqProofs(maxSteps:=2000000)(disch:=first|assumption|omega)[*, ])
   all_goals first | (first | (exfalso; omega) | ((try subst_vars); (first | refine EndsE.eq ?_ (by simp) | refine EndsE.eqat ?_ (by simp)); (first | with_reducible rfl | (simp [*, ]; done) | (simp [*, ]; omega) | (simp only [LV.bool.injEq]; rw [Bool.eq_iff_iff]; simp [*, ]; done) | (simp only [LV.bool.injEq]; rw [Bool.eq_iff_iff]; simp [*, ]; omega) | (simp only [LV.bool.injEq]; rw [Bool.eq_iff_iff]; simp (disch := omega) only [if_pos, if_neg, if_true, if_false, *, ]; simp <;> omega) | (simp only [LV.bool.injEq, Bool.and_eq_false_imp, Bool.and_eq_true, decide_eq_true_eq]; intros; exfalso; omega) | (simp only [LV.bool.injEq, Bool.and_eq_false_imp, Bool.and_eq_true, decide_eq_true_eq]; intros; simp_all; done))))
  ·have := all_succ hlt hm hI
   rw [hm] at hc
   repeat' (first|(with_reducible first|refine bt ?_|refine bf ?_|(first|refine bc ?_ ?_|refine gc ?_ ?_|refine pc ?_ ?_)<;>intro _|(refine dr P31 mixed ?_ ?_ ?_;kernel_rfl;kernel_rfl)|refine callE hc ?_)|simp -implicitDefEqProofs(maxSteps:=2000000)(disch:=first|assumption|omega)[*, ])
   exact ⟨hlt, (), this, by (refine Fits.of ?_ ?_; rotate_left; (repeat (first | with_reducible exact Off.refl _ _ | refine Off.upd rfl ?_ | refine Off.updO rfl ?_ | refine Off.upds rfl ?_)); simp [upd_apply, upds_cons]), rfl, rfl⟩
 ·have : k = cho.length := by omega
  subst this
  rw [List.take_length] at hI
  repeat' (first|(with_reducible first|refine bt ?_|refine bf ?_|(first|refine bc ?_ ?_|refine gc ?_ ?_|refine pc ?_ ?_)<;>intro _|(refine dr P31 mixed ?_ ?_ ?_;kernel_rfl;kernel_rfl))|simp -implicitDefEqProofs(maxSteps:=2000000)(disch:=first|assumption|omega)[*, ])
  refine aW_for (β := List AObj) false fs.length (fun k J => (fs.take k).all (mayF p) = true) (fun k _ => [(8, .int .i64 k), (104, .any), (105, .any), (106, .any), (107, .any), (108, .any), (111, .any), (112, .any), (113, .any), (114, .any), (115, .any), (9, .any), (116, .any), (117, .any), (118, .any), (119, .any), (120, .any), (121, .any), (122, .any), (123, .any), (124, .any), (125, .any), (126, .any), (127, .any), (128, .any), (129, .any), (2, .any), (10, .any), (130, .any), (131, .any), (132, .any), (133, .any), (134, .any), (137, .any), (138, .any), (139, .any), (140, .any), (141, .any), (142, .any), (143, .any), (144, .any), (11, .any), (145, .any), (146, .any), (135, .any), (136, .any), (109, .any), (110, .any)]) (fun _ J => s ++ (.cells [row fs, .int .i64 mu, row co, row se, row ch, row cho, .int .i64 th] :: J)) (fun _ _ => v) ?_ ?_
  ·exact ⟨[], by simp, by (refine Fits.of ?_ (Off.refl _ _); simp [upd_apply, upds_cons]), by simp, rfl⟩
  intro k J hk hF
  by_cases hlt : k < fs.length
  ·have hmf : ∀ b, mayF p (nth fs k) = b ↔ (decide (0 ≤ (nth fs k).locals) && decide ((nth fs k).locals ≤ 8) && decide ((nth fs k).code.length ≤ 64) && (nth fs k).code.all (mayI p (nth fs k))) = b := fun b => by rfl
   have hbad := fun h => all_false (p := mayF p) hlt h
   by_cases hpre : 0 ≤ (nth fs k).locals ∧ (nth fs k).locals ≤ 8 ∧ (nth fs k).code.length ≤ 64
   ·obtain ⟨q1, q2, q3⟩ := hpre
    repeat' (first|(with_reducible first|refine bt ?_|refine bf ?_|(first|refine bc ?_ ?_|refine gc ?_ ?_|refine pc ?_ ?_)<;>intro _|(refine dr P31 mixed ?_ ?_ ?_;kernel_rfl;kernel_rfl))|simp -implicitDefEqProofs(maxSteps:=2000000)(disch:=first|assumption|omega)[*, ])
    all_goals first | (exfalso; omega) | skip
    refine aWl_for (β := Unit) false (nth fs k).code.length (fun j _ => ((nth fs k).code.take j).all (mayI p (nth fs k)) = true) (fun j _ => [(10, .int .i64 j), (130, .any), (131, .any), (132, .any), (133, .any), (134, .any), (137, .any), (138, .any), (139, .any), (140, .any), (141, .any), (142, .any), (143, .any), (144, .any), (11, .any), (145, .any), (146, .any), (2, .any), (135, .any), (136, .any)]) (fun _ _ => s ++ (.cells [row fs, .int .i64 mu, row co, row se, row ch, row cho, .int .i64 th] :: (J ++ [.cells [.int .i64 (nth fs k).locals, row (nth fs k).code]]))) (fun _ _ => v) ?_ ?_
    ·exact ⟨(), by simp, by (refine Fits.of ?_ (Off.refl _ _); simp [upd_apply, upds_cons]), rfl, rfl⟩
    intro j _ hj hC
    by_cases hltj : j < (nth fs k).code.length
    ·have hi := instr_p (fs := fs) (mu := mu) (th := th) (lo := (nth fs k).locals) (op := (nth (nth fs k).code j).op) (a := (nth (nth fs k).code j).a) (co := co) (se := se) (ch := ch) (cho := cho) (cl := (nth fs k).code) (by omega)
     have hspec : mayI ⟨fs, mu, co, se, ch, cho, th⟩ ⟨(nth fs k).locals, (nth fs k).code⟩ ⟨(nth (nth fs k).code j).op, (nth (nth fs k).code j).a⟩ = mayI p (nth fs k) (nth (nth fs k).code j) := by subst hp; rfl
     rw [hspec] at hi
     cases hm : mayI p (nth fs k) (nth (nth fs k).code j)
     ·have hf := hbad ((hmf false).2 (by rw [all_false hltj hm, Bool.and_false]))
      clear hbad hmf
      rw [hm] at hi
      repeat' (first|(with_reducible first|refine bt ?_|refine bf ?_|(first|refine bc ?_ ?_|refine gc ?_ ?_|refine pc ?_ ?_)<;>intro _|(refine dr P31 mixed ?_ ?_ ?_;kernel_rfl;kernel_rfl)|refine callE hi ?_)|simp -implicitDefEqProofs(maxSteps:=2000000)(disch:=first|assumption|omega)[*, ])
      all_goals first | (first | (exfalso; omega) | ((try subst_vars); (first | refine EndsE.eq ?_ (by simp) | refine EndsE.eqat ?_ (by simp)); (first | with_reducible rfl | (simp [*, ]; done) | (simp [*, ]; omega) | (simp only [LV.bool.injEq]; rw [Bool.eq_iff_iff]; simp [*, ]; done) | (simp only [LV.bool.injEq]; rw [Bool.eq_iff_iff]; simp [*, ]; omega) | (simp only [LV.bool.injEq]; rw [Bool.eq_iff_iff]; simp (disch := omega) only [if_pos, if_neg, if_true, if_false, *, ]; simp <;> omega) | (simp only [LV.bool.injEq, Bool.and_eq_false_imp, Bool.and_eq_true, decide_eq_true_eq]; intros; exfalso; omega) | (simp only [LV.bool.injEq, Bool.and_eq_false_imp, Bool.and_eq_true, decide_eq_true_eq]; intros; simp_all; done))))
     ·have := all_succ hltj hm hC
      rw [hm] at hi
      repeat' (first|(with_reducible first|refine bt ?_|refine bf ?_|(first|refine bc ?_ ?_|refine gc ?_ ?_|refine pc ?_ ?_)<;>intro _|(refine dr P31 mixed ?_ ?_ ?_;kernel_rfl;kernel_rfl)|refine callE hi ?_)|simp -implicitDefEqProofs(maxSteps:=2000000)(disch:=first|assumption|omega)[*, ])
      all_goals first | (exfalso; omega) | skip
      exact ⟨hltj, (), this, by (refine Fits.of ?_ ?_; rotate_left; (repeat (first | with_reducible exact Off.refl _ _ | refine Off.upd rfl ?_ | refine Off.updO rfl ?_ | refine Off.upds rfl ?_)); simp [upd_apply, upds_cons]), rfl, rfl⟩
    ·have : j = (nth fs k).code.length := by omega
     subst this
     rw [List.take_length] at hC
     have ht := all_succ (p := mayF p) hlt ((hmf true).2 (by rw [hC]; simp only [Bool.and_true, Bool.and_eq_true, decide_eq_true_eq]; omega)) hF
     clear hbad hmf
     repeat' (first|(with_reducible first|refine bt ?_|refine bf ?_|(first|refine bc ?_ ?_|refine gc ?_ ?_|refine pc ?_ ?_)<;>intro _|(refine dr P31 mixed ?_ ?_ ?_;kernel_rfl;kernel_rfl))|simp -implicitDefEqProofs(maxSteps:=2000000)(disch:=first|assumption|omega)[*, ])
     all_goals first | (exfalso; omega) | skip
     exact ⟨hlt, J ++ [.cells [.int .i64 (nth fs k).locals, row (nth fs k).code]], ht, by (refine Fits.of ?_ ?_; rotate_left; (repeat (first | with_reducible exact Off.refl _ _ | refine Off.upd rfl ?_ | refine Off.updO rfl ?_ | refine Off.upds rfl ?_)); simp [upd_apply, upds_cons]), rfl, rfl⟩
   ·have hf := hbad ((hmf false).2 (by
     rw [Bool.and_eq_false_imp]; intro h; exfalso; simp only [Bool.and_eq_true, decide_eq_true_eq] at h; omega))
    clear hbad hmf
    repeat' (first|(with_reducible first|refine bt ?_|refine bf ?_|(first|refine bc ?_ ?_|refine gc ?_ ?_|refine pc ?_ ?_)<;>intro _|(refine dr P31 mixed ?_ ?_ ?_;kernel_rfl;kernel_rfl))|simp -implicitDefEqProofs(maxSteps:=2000000)(disch:=first|assumption|omega)[*, ])
    all_goals first | (exfalso; omega) | (first | (exfalso; omega) | ((try subst_vars); (first | refine EndsE.eq ?_ (by simp) | refine EndsE.eqat ?_ (by simp)); (first | with_reducible rfl | (simp [*, ]; done) | (simp [*, ]; omega) | (simp only [LV.bool.injEq]; rw [Bool.eq_iff_iff]; simp [*, ]; done) | (simp only [LV.bool.injEq]; rw [Bool.eq_iff_iff]; simp [*, ]; omega) | (simp only [LV.bool.injEq]; rw [Bool.eq_iff_iff]; simp (disch := omega) only [if_pos, if_neg, if_true, if_false, *, ]; simp <;> omega) | (simp only [LV.bool.injEq, Bool.and_eq_false_imp, Bool.and_eq_true, decide_eq_true_eq]; intros; exfalso; omega) | (simp only [LV.bool.injEq, Bool.and_eq_false_imp, Bool.and_eq_true, decide_eq_true_eq]; intros; simp_all; done))))
  ·have : k = fs.length := by omega
   subst this
   rw [List.take_length] at hF
   repeat' (first|(with_reducible first|refine bt ?_|refine bf ?_|(first|refine bc ?_ ?_|refine gc ?_ ?_|refine pc ?_ ?_)<;>intro _|(refine dr P31 mixed ?_ ?_ ?_;kernel_rfl;kernel_rfl))|simp -implicitDefEqProofs(maxSteps:=2000000)(disch:=first|assumption|omega)[*, ])
   refine EndsE.eqat ?_ (by simp)
   simp only [hI, hF, Bool.and_true, LV.bool.injEq]
   simp only [*, Bool.and_true, Bool.and_eq_true, decide_eq_true_eq]
   omega
end Go.Hb
