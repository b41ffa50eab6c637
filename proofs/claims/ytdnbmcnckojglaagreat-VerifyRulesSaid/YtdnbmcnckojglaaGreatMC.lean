/-
  A layer for reasoning about the program's calls, and contracts of its functions (MC). CONDITIONS: none; each theorem bears its own.
-/
import Derived.Test.YtdnbmcnckojglaaGreatMB
set_option linter.unusedVariables false
set_option linter.unusedSimpArgs false
namespace Go.Hb
open Go Go.Proofs Go.RowKit
set_option maxRecDepth 100000
set_option maxHeartbeats 800000
attribute [-simp] aC aL aOper aThen aInBlock aIf aPlan aAppend aLen aIndexAddr aSlice aCells aBounds lBr aq initT aev aAppendOwn aAppendNil aAppendNew aAppendRef LV.cells LV.cellsOk getElem?_pos getElem?_neg
attribute [local simp] Thr.lv Req.lv Ins.lv Prog.lv thrEnd
theorem ends_p (c : Int) : PureE Tryz.prog 165 [.int .i64 c] (.tup [.agg (ends c).1.lv, .agg (ends c).2.lv]) := by
 refine .of fun s v => ?_
 refine aCalls_go Tryz.func165 rfl (by decide) Tryz.ntmps165 (by simp) false ?_
 have hres : Tryz.f165.results = #[.cell 2 66, .cell 3 135] := rfl
 have he := thrEnd_p c
 simp only [Thr.lv, thrEnd] at he
 repeat' (first|(with_reducible first|refine bt ?_|refine bf ?_|(first|refine bc ?_ ?_|refine gc ?_ ?_|refine pc ?_ ?_)<;>intro _|refine callE he ?_)|simp -implicitDefEqProofs(maxSteps:=2000000)(disch:=first|assumption|omega)[*, ])
 exact EndsE.eqat rfl (by simp)
theorem needs_p (op : Int) : PureE Tryz.prog 167 [.int .i64 op] (.int .i64 (needs op)) := by
 refine .of fun s v => ?_
 refine aCalls_go Tryz.func167 rfl (by decide) Tryz.ntmps167 (by simp) false ?_
 have hres : Tryz.f167.results = #[.tmp 2] := rfl
 repeat' (first|(with_reducible first|refine bt ?_|refine bf ?_|(first|refine bc ?_ ?_|refine gc ?_ ?_|refine pc ?_ ?_)<;>intro _)|simp -implicitDefEqProofs(maxSteps:=2000000)(disch:=first|assumption|omega)[*, ])
 all_goals exact EndsE.eq (by simp [needs, *]) (by simp)
theorem kind_p (op : Int) : PureE Tryz.prog 169 [.int .i64 op] (.int .i64 (kindOf op)) := by
 refine .of fun s v => ?_
 refine aCalls_go Tryz.func169 rfl (by decide) Tryz.ntmps169 (by simp) false ?_
 have hres : Tryz.f169.results = #[.tmp 2] := rfl
 repeat' (first|(with_reducible first|refine bt ?_|refine bf ?_|(first|refine bc ?_ ?_|refine gc ?_ ?_|refine pc ?_ ?_)<;>intro _)|simp -implicitDefEqProofs(maxSteps:=2000000)(disch:=first|assumption|omega)[*, ])
 all_goals exact EndsE.eq (by simp [kindOf, *]) (by simp)
theorem pushed_p (t : Thr) (hb : ThrB t) (x : Int) : PureC Tryz.prog 170 [.agg t.lv, .int .i64 x] (.tup [.agg (pushed t x).1.lv, .agg (pushed t x).2.lv]) := by
 refine .of fun s v => ?_
 have hp : PureC Tryz.prog 171 [.agg t.lv, .int .i64 x] (.tup [.agg (push t x).1.lv, .bool (push t x).2]) := push_p (fr := t.frames) (sk := t.stack) hb
 have he := ends_p 2
 unfold pushed
 generalize push t x = q at *
 obtain ⟨t', is⟩ := q
 simp only [Thr.lv, Req.lv, ends] at hp he ⊢
 refine aCalls_go Tryz.func170 rfl (by decide) Tryz.ntmps170 (by simp) false ?_
 have hres : Tryz.f170.results = #[.cell 4 66, .cell 5 135] := rfl
 cases is
 ·repeat' (first|(with_reducible first|refine bt ?_|refine bf ?_|(first|refine bc ?_ ?_|refine gc ?_ ?_|refine pc ?_ ?_)<;>intro _|refine callC hp (fun v1 hv1 => ?_)|refine callE he ?_)|simp -implicitDefEqProofs(maxSteps:=2000000)(disch:=first|assumption|omega)[*, ])
  exact Ends.eqat rfl (by simp) hv1
 ·repeat' (first|(with_reducible first|refine bt ?_|refine bf ?_|(first|refine bc ?_ ?_|refine gc ?_ ?_|refine pc ?_ ?_)<;>intro _|refine callC hp (fun v1 hv1 => ?_))|simp -implicitDefEqProofs(maxSteps:=2000000)(disch:=first|assumption|omega)[*, ])
  exact Ends.eqat rfl (by simp) hv1
theorem tell_p (t : Thr) (hb : ThrB t) (l : List Int) (hl : l.length ≤ 1000) : PureC Tryz.prog 286 [.agg t.lv, row l] (.tup [.agg (thrTell t l).1.lv, .bool (thrTell t l).2]) := by
 refine .of fun s v => ?_
 have he := thrEnd_p 2
 simp only [Thr.lv, thrEnd] at he
 refine aCalls_go Tryz.func286 rfl (by decide) Tryz.ntmps286 (by simp) false ?_
 have hres : Tryz.f286.results = #[.cell 4 66, .tmp 5] := rfl
 simp only [Thr.lv]
 repeat' (first|(with_reducible first|refine bt ?_|refine bf ?_|(first|refine bc ?_ ?_|refine gc ?_ ?_|refine pc ?_ ?_)<;>intro _|(refine dr P286 mixed ?_ ?_ ?_;kernel_rfl;kernel_rfl))|simp -implicitDefEqProofs(maxSteps:=2000000)(disch:=first|assumption|omega)[*, ])
 refine aW_for (β := Thr × List AObj × List Nat) false l.length (fun k p => v <+: p.2.2 ∧ ThrB p.1 ∧ thrTell t l = thrTell p.1 (l.drop k)) (fun k p => [(7, .int .i64 k), (11, .any), (12, .any), (13, .any), (14, .any), (18, .any), (19, .any), (20, .any), (21, .any), (22, .any), (23, .any), (17, .any), (24, .any), (25, .any), (8, .any), (9, .any), (26, .any), (27, .any), (28, .any), (5, .any), (29, .any), (15, .any), (16, .any)]) (fun _ p => s ++ (.cells [.int .i64 t.state, .int .i64 t.on, row t.frames, row t.stack, .int .i64 t.code] :: .cells [.int .i64 0, .int .i64 0, .nils, .nils, .int .i64 0] :: .cells [.int .i64 p.1.state, .int .i64 p.1.on, row p.1.frames, row p.1.stack, .int .i64 p.1.code] :: p.2.1)) (fun _ p => p.2.2) ?_ ?_
 ·exact ⟨(t, [], v), ⟨List.prefix_refl _, hb, rfl⟩, by (refine Fits.of ?_ (Off.refl _ _); simp [upd_apply, upds_cons]), rfl, rfl⟩
 rintro k ⟨t1, J, v1⟩ hk ⟨hv1, hb1, hI⟩
 simp only at hv1 hb1 hI
 by_cases hlt : k < l.length
 ·have hx := ix_in (l := l) (i := (k : Int)) (by omega) (by omega)
  have hp : PureC Tryz.prog 171 [.agg t1.lv, .int .i64 (nth l k)] (.tup [.agg (push t1 (nth l k)).1.lv, .bool (push t1 (nth l k)).2]) := push_p (fr := t1.frames) (sk := t1.stack) hb1
  have hpb := push_b hb1 (nth l k)
  rw [drop_nth hlt, thrTell] at hI
  generalize push t1 (nth l k) = q at *
  obtain ⟨t', is⟩ := q
  simp only [Thr.lv] at hp hI hpb
  cases is
  ·simp only [Bool.false_eq_true, if_false] at hI
   rw [hI]
   repeat' (first|(with_reducible first|refine bt ?_|refine bf ?_|(first|refine bc ?_ ?_|refine gc ?_ ?_|refine pc ?_ ?_)<;>intro _|(refine dr P286 mixed ?_ ?_ ?_;kernel_rfl;kernel_rfl)|refine andC ?_ ?_|refine callC hp (fun v2 hv2 => ?_)|refine callE he ?_)|simp -implicitDefEqProofs(maxSteps:=2000000)(disch:=first|assumption|omega)[*, ])
   all_goals exact Ends.eqat rfl (by simp) (hv1.trans hv2)
  ·simp only [if_true] at hI
   repeat' (first|(with_reducible first|refine bt ?_|refine bf ?_|(first|refine bc ?_ ?_|refine gc ?_ ?_|refine pc ?_ ?_)<;>intro _|(refine dr P286 mixed ?_ ?_ ?_;kernel_rfl;kernel_rfl)|refine andC ?_ ?_|refine callC hp (fun v2 hv2 => ?_))|simp -implicitDefEqProofs(maxSteps:=2000000)(disch:=first|assumption|omega)[*, ])
   all_goals exact ⟨hlt, (t', J ++ [.cells [.int .i64 t'.state, .int .i64 t'.on, row t'.frames, row t'.stack, .int .i64 t'.code]], v2), ⟨hv1.trans hv2, hpb, hI⟩, by (refine Fits.of ?_ ?_; rotate_left; (repeat (first | with_reducible exact Off.refl _ _ | refine Off.upd rfl ?_ | refine Off.updO rfl ?_ | refine Off.upds rfl ?_)); simp [upd_apply, upds_cons]), by simp, rfl⟩
 ·have : k = l.length := by omega
  subst this
  rw [List.drop_length, thrTell] at hI
  rw [hI]
  repeat' (first|(with_reducible first|refine bt ?_|refine bf ?_|(first|refine bc ?_ ?_|refine gc ?_ ?_|refine pc ?_ ?_)<;>intro _|(refine dr P286 mixed ?_ ?_ ?_;kernel_rfl;kernel_rfl))|simp -implicitDefEqProofs(maxSteps:=2000000)(disch:=first|assumption|omega)[*, ])
  exact Ends.eqat rfl (by simp) hv1
end Go.Hb
