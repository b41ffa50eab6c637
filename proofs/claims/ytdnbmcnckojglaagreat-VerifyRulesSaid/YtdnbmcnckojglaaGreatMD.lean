/-
  A layer for reasoning about the program's calls, and contracts of its functions (MD). CONDITIONS: none; each theorem bears its own.
-/
import Derived.Test.YtdnbmcnckojglaaGreatMC
set_option linter.unusedVariables false
set_option linter.unusedSimpArgs false
namespace Go.Hb
open Go Go.Proofs Go.RowKit
set_option maxRecDepth 100000
set_option maxHeartbeats 800000
attribute [-simp] aC aL aOper aThen aInBlock aIf aPlan aAppend aLen aIndexAddr aSlice aCells aBounds lBr aq initT aev aAppendOwn aAppendNil aAppendNew aAppendRef LV.cells LV.cellsOk getElem?_pos getElem?_neg
attribute [local simp] Thr.lv Req.lv Ins.lv

set_option maxHeartbeats 8000000 in
theorem vmStep_p (p : Prog) (t : Thr) (hb : ThrB t) (hst : ∀ x ∈ t.stack, -1073741824 ≤ x ∧ x ≤ 1073741824) (h0 : t.frames ≠ []) (h1 : 0 ≤ (topF t).func) (h2 : (topF t).func < p.funcs.length) (h3 : 0 ≤ (topF t).pc ∧ (topF t).pc ≤ 1000) (h4 : (at' p.funcs (topF t).func).code.length ≤ 64)
  (h5 : ∀ i, fetch p t = (i, true) → ((i.op = 5 ∨ i.op = 6) → 0 ≤ i.a ∧ i.a < (topF t).locals.length) ∧ (i.op = 9 → 0 ≤ i.a ∧ i.a < p.funcs.length ∧ 0 ≤ (at' p.funcs i.a).locals ∧ (at' p.funcs i.a).locals ≤ 8)) :
  PureC Tryz.prog 99 [.agg [row p.funcs, .int .i64 p.mutexes, row p.conds, row p.semas, row p.chans, row p.choices, .int .i64 p.threads], .agg t.lv] (.tup [.agg (vmStep p t).1.lv, .agg (vmStep p t).2.lv]) := by
 refine .of fun s v => ?_
 have hf0 : t.frames.length ≠ 0 := fun e => h0 (List.length_eq_zero_iff.1 e)
 have hb1 := hb.1
 have hb2 := hb.2.1
 have hfe : PureE Tryz.prog 164 _ (.tup [.agg (fetch p t).1.lv, .bool (fetch p t).2]) := fetch_p (fs := p.funcs) (mu := p.mutexes) (th := p.threads) (cn := p.conds) (se := p.semas) (ch := p.chans) (cho := p.choices) (fr := t.frames) (sk := t.stack) (st := t.state) (on := t.on) (co := t.code) h0 (by omega) h1 h2 h3.1 (Nat.le_trans h4 (by omega))
 have hju : PureE Tryz.prog 166 _ (.agg (jump t ((topF t).pc + 1)).lv) := jump_p (pc := (topF t).pc + 1) hb h0
 have hjb := jump_b hb ((topF t).pc + 1)
 have he6 := ends_p 6
 have he1 := ends_p 1
 have hx := ix_in (l := t.frames) (i := (t.frames.length : Int) - 1) (by omega) (by omega)
 have e1 : ((t.frames.length : Int) - 1).toNat = t.frames.length - 1 := by omega
 rw [e1] at hx
 have hvm : vmStep p t = if (fetch p t).2 = false then ends 6 else if t.stack.length < needs (fetch p t).1.op then ends 1 else
  if 0 < kindOf (fetch p t).1.op then ((popN (needs (fetch p t).1.op) (jump t ((topF t).pc + 1))).1, ⟨kindOf (fetch p t).1.op, (fetch p t).1.a, if 0 < needs (fetch p t).1.op then nth (popN (needs (fetch p t).1.op) (jump t ((topF t).pc + 1))).2 0 else 0⟩)
  else act p (popN (needs (fetch p t).1.op) (jump t ((topF t).pc + 1))).1 (fetch p t).1 (popN (needs (fetch p t).1.op) (jump t ((topF t).pc + 1))).2 := rfl
 have hjf : Hid ((jump t ((topF t).pc + 1)).frames = t.frames.set (t.frames.length - 1) { topF t with pc := (topF t).pc + 1 }) := rfl
 have hjs : Hid ((jump t ((topF t).pc + 1)).stack = t.stack) := rfl
 have htop : topF t = nth t.frames (t.frames.length - 1) := rfl
 generalize vmStep p t = V at *
 have hI64 : (topF t).pc + 1 < 9223372036854775807 := by omega
 generalize fetch p t = q at *
 obtain ⟨i, is⟩ := q
 generalize jump t ((topF t).pc + 1) = tj at *
 simp only [Thr.lv, Ins.lv, Req.lv, ends, thrEnd] at hfe hju he6 he1
 rw [htop] at hju
 have h3' := h3
 rw [htop] at h3'
 refine aCalls_go Tryz.func99 rfl (by decide) Tryz.ntmps99 (by simp) false ?_
 have hres : Tryz.f99.results = #[.cell 4 66, .cell 5 135] := rfl
 cases is
 ·rw [if_pos rfl] at hvm
  subst hvm
  simp only [Thr.lv, Req.lv, ends, thrEnd]
  repeat' (first|(with_reducible first|refine bt ?_|refine bf ?_|(first|refine bc ?_ ?_|refine gc ?_ ?_|refine pc ?_ ?_)<;>intro _|(refine dr P99 mixed ?_ ?_ ?_;kernel_rfl;kernel_rfl)|refine callE hfe ?_|refine callE he6 ?_)|simp -implicitDefEqProofs(maxSteps:=2000000)(disch:=first|assumption|omega)[*, ])
  exact Ends.eqat rfl (by simp) (List.prefix_refl _)
 rw [if_neg (by simp)] at hvm
 have hne := needs_p i.op
 have hnl : needs i.op ≤ 2 := by unfold needs; split; omega; split <;> omega
 by_cases hlt : t.stack.length < needs i.op
 ·rw [if_pos hlt] at hvm
  subst hvm
  simp only [Thr.lv, Req.lv, ends, thrEnd]
  repeat' (first|(with_reducible first|refine bt ?_|refine bf ?_|(first|refine bc ?_ ?_|refine gc ?_ ?_|refine pc ?_ ?_)<;>intro _|(refine dr P99 mixed ?_ ?_ ?_;kernel_rfl;kernel_rfl)|refine andC ?_ ?_|refine callE hfe ?_|refine callE hju ?_|refine callE hne ?_|refine callE he1 ?_)|simp -implicitDefEqProofs(maxSteps:=2000000)(disch:=first|assumption|omega)[*, ])
  all_goals exact Ends.eqat rfl (by simp) (List.prefix_refl _)
 ·rw [if_neg hlt] at hvm
  repeat' (first|(with_reducible first|refine bt ?_|refine bf ?_|(first|refine bc ?_ ?_|refine gc ?_ ?_|refine pc ?_ ?_)<;>intro _|(refine dr P99 mixed ?_ ?_ ?_;kernel_rfl;kernel_rfl)|refine andC ?_ ?_|refine callE hfe ?_|refine callE hju ?_|refine callE hne ?_)|simp -implicitDefEqProofs(maxSteps:=2000000)(disch:=first|assumption|omega)[*, ])
  all_goals (
   have hki := kind_p i.op
   refine aW_for (β := List AObj × LV × List Nat) false (needs i.op) (fun k p => GroE v p.2.2 (popN k tj).2 p.2.1) (fun k p => [(9, p.2.1), (10, .int .i64 k), (54, .any), (55, .any), (56, .any), (57, .any), (58, .any), (62, .any), (63, .any), (61, .any), (64, .any), (65, .any), (66, .any), (11, .any), (12, .any), (13, .any), (67, .any), (68, .any), (69, .any), (70, .any), (71, .any), (59, .any), (60, .any)])
    (fun k p' => s ++ (.cells [row p.funcs, .int .i64 p.mutexes, row p.conds, row p.semas, row p.chans, row p.choices, .int .i64 p.threads] :: .cells [.int .i64 t.state, .int .i64 t.on, row t.frames, row t.stack, .int .i64 t.code] :: .cells [.int .i64 0, .int .i64 0, .nils, .nils, .int .i64 0] :: .cells [.int .i64 0, .int .i64 0, .int .i64 0] :: .cells [.int .i64 i.op, .int .i64 i.a] :: .cells [.int .i64 (popN k tj).1.state, .int .i64 (popN k tj).1.on, row (popN k tj).1.frames, row (popN k tj).1.stack, .int .i64 (popN k tj).1.code] :: p'.1)) (fun _ p => p.2.2) ?_ ?_
   ·exact ⟨([], .nils, v), GroE.nil _, by (refine Fits.of ?_ (Off.refl _ _); simp [upd_apply, upds_cons]), rfl, rfl⟩
   rintro k ⟨J, xl, v1⟩ hk hG
   simp only at hG
   by_cases hkn : k < needs i.op
   ·have hpop : PureC Tryz.prog 168 [.agg (popN k tj).1.lv] (.tup [.agg (pop (popN k tj).1).1.lv, .int .i64 (pop (popN k tj).1).2.1, .bool (pop (popN k tj).1).2.2]) := pop_p (popN_b hjb k)
    have hsucc : popN (k + 1) tj = ((pop (popN k tj).1).1, (popN k tj).2 ++ [(pop (popN k tj).1).2.1]) := rfl
    have hlen := popN_len tj k
    generalize popN k tj = w at *
    generalize pop w.1 = u at *
    obtain ⟨u1, u2, u3⟩ := u
    have hxc := hG.gro.cells
    simp only [Thr.lv] at hpop
    repeat' (first|(with_reducible first|refine bt ?_|refine bf ?_|(first|refine bc ?_ ?_|refine gc ?_ ?_|refine pc ?_ ?_)<;>intro _|(refine dr P99 mixed ?_ ?_ ?_;kernel_rfl;kernel_rfl)|refine callE hne ?_|refine callC hpop (fun v2 hv2 => ?_))|simp -implicitDefEqProofs(maxSteps:=2000000)(disch:=first|assumption|omega)[*, ])
    have hG2 : GroE v v2 w.2 xl := GroC.mono hG hv2
    obtain ⟨x2, v3, hG3, _, ha⟩ := hG2.push (P := Tryz.prog) (t := 23) (t2 := 23) (sz := 1) (by_ := 8) (by kernel_rfl) rfl (by omega) u2 (by omega)
    simp only [enc_int] at ha
    repeat' (first|(with_reducible first|refine bt ?_|refine bf ?_|(first|refine bc ?_ ?_|refine gc ?_ ?_|refine pc ?_ ?_)<;>intro _|(refine dr P99 mixed ?_ ?_ ?_;kernel_rfl;kernel_rfl))|simp -implicitDefEqProofs(maxSteps:=2000000)(disch:=first|assumption|omega)[*, ])
    exact ⟨hkn, (J ++ [.cells [.int .i64 u1.state, .int .i64 u1.on, row u1.frames, row u1.stack, .int .i64 u1.code]], x2, v3), by simp only [hsucc]; exact hG3, by (refine Fits.of ?_ ?_; rotate_left; (repeat (first | with_reducible exact Off.refl _ _ | refine Off.upd rfl ?_ | refine Off.updO rfl ?_ | refine Off.upds rfl ?_)); simp [upd_apply, upds_cons]), by simp [hsucc], rfl⟩
   ·have hkk : k = needs i.op := by omega
    subst hkk
    have hln := popN_len tj (needs i.op)
    have hob := popN_b hjb (needs i.op)
    have hof : Hid ((popN (needs i.op) tj).1.frames = tj.frames) := popN_frames tj (needs i.op)
    have hin := popN_in (t := tj) (by rw [show tj.stack = t.stack from hjs]; exact hst) (needs i.op)
    generalize popN (needs i.op) tj = w at *
    obtain ⟨out, L⟩ := w
    simp only at hln hob hof hin hG hvm
    have hxc := hG.gro.cells
    have hxl := hG.gro.len (P := Tryz.prog) (t := 23) (by kernel_rfl)
    have hix := fun i => hG.ix (P := Tryz.prog) (t := 23) (κ := .i64) (i := i)
    by_cases hkd : 0 < kindOf i.op
    ·rw [if_pos hkd] at hvm
     subst hvm
     simp only [Thr.lv, Req.lv]
     by_cases hn0 : 0 < needs i.op
     ·have hi0 := ix_in (l := L) (i := 0) (by omega) (by omega)
      repeat' (first|(with_reducible first|refine bt ?_|refine bf ?_|(first|refine bc ?_ ?_|refine gc ?_ ?_|refine pc ?_ ?_)<;>intro _|(refine dr P99 mixed ?_ ?_ ?_;kernel_rfl;kernel_rfl)|refine andC ?_ ?_|refine callE hne ?_|refine callE hki ?_)|simp -implicitDefEqProofs(maxSteps:=2000000)(disch:=first|assumption|omega)[*, ])
      all_goals exact Ends.eqat rfl (by simp) hG.1
     ·have hn1 : needs i.op = 0 := by omega
      repeat' (first|(with_reducible first|refine bt ?_|refine bf ?_|(first|refine bc ?_ ?_|refine gc ?_ ?_|refine pc ?_ ?_)<;>intro _|(refine dr P99 mixed ?_ ?_ ?_;kernel_rfl;kernel_rfl)|refine andC ?_ ?_|refine callE hne ?_|refine callE hki ?_)|simp -implicitDefEqProofs(maxSteps:=2000000)(disch:=first|assumption|omega)[*, ])
      all_goals exact Ends.eqat rfl (by simp) hG.1
    ·rw [if_neg hkd] at hvm
     subst hvm
     have htop2 : topF out = { topF t with pc := (topF t).pc + 1 } := by
      unfold topF
      rw [show out.frames = _ from hof, show tj.frames = _ from hjf, List.length_set, nth_set (by omega)]
      rfl
     have hone : out.frames ≠ [] := by rw [show out.frames = _ from hof, show tj.frames = _ from hjf]; exact List.ne_nil_of_length_pos (by rw [List.length_set]; omega)
     have hloc : (topF out).locals = (topF t).locals := by rw [htop2]
     have hpu := fun x => pushed_p out hob x
     obtain ⟨op, a⟩ := i
     obtain ⟨h5a, h5b⟩ := h5 _ rfl
     simp only at h5a h5b hln hne hki hkd hlt hnl ⊢
     clear h5
     by_cases c0 : op = 0
     ·subst c0
      have hp := pushed_p out hob a
      rw [show act p out ⟨0, a⟩ L = pushed out a from by simp [act]]
      generalize pushed out a = u at hp ⊢
      simp only [Thr.lv, Req.lv] at hp ⊢
      repeat' (first|(with_reducible first|refine bt ?_|refine bf ?_|(first|refine bc ?_ ?_|refine gc ?_ ?_|refine pc ?_ ?_)<;>intro _|(refine dr P99 mixed ?_ ?_ ?_;kernel_rfl;kernel_rfl)|refine andC ?_ ?_|refine callE hne ?_|refine callE hki ?_|refine callC hp (fun v2 hv2 => ?_))|simp -implicitDefEqProofs(maxSteps:=2000000)(disch:=first|assumption|omega)[*, ])
      all_goals exact Ends.eqat rfl (by simp) (hG.1.trans hv2)
     by_cases c2 : op = 2
     ·subst c2
      have hn1 : needs 2 = 1 := by simp [needs]
      have hi0 := ix_in (l := L) (i := 0) (by omega) (by omega)
      have hq : PureC Tryz.prog 171 [.agg out.lv, .int .i64 (nth L 0)] (.tup [.agg (push out (nth L 0)).1.lv, .bool (push out (nth L 0)).2]) := push_p hob
      have hub := push_b hob (nth L 0)
      rw [show act p out ⟨2, a⟩ L = pushed (push out (nth L 0)).1 (nth L 0) from by simp [act]]
      generalize push out (nth L 0) = w at *
      have hp := pushed_p w.1 hub (nth L 0)
      generalize pushed w.1 (nth L 0) = u at *
      simp only [Thr.lv, Req.lv] at hp hq ⊢
      repeat' (first|(with_reducible first|refine bt ?_|refine bf ?_|(first|refine bc ?_ ?_|refine gc ?_ ?_|refine pc ?_ ?_)<;>intro _|(refine dr P99 mixed ?_ ?_ ?_;kernel_rfl;kernel_rfl)|refine andC ?_ ?_|refine callE hne ?_|refine callE hki ?_|refine callC hq (fun v2 hv2 => ?_)|refine callC hp (fun v3 hv3 => ?_))|simp -implicitDefEqProofs(maxSteps:=2000000)(disch:=first|assumption|omega)[*, ])
      all_goals exact Ends.eqat rfl (by simp) ((hG.1.trans hv2).trans hv3)
     by_cases c3 : op = 3
     ·subst c3
      have hn1 : needs 3 = 2 := by simp [needs]
      have hi0 := ix_in (l := L) (i := 0) (by omega) (by omega)
      have hi1 := ix_in (l := L) (i := 1) (by omega) (by omega)
      have hb0 := hin.2 (nth L 0) (nth_mem (by omega))
      have hb1 := hin.2 (nth L 1) (nth_mem (by omega))
      have hp := pushed_p out hob (nth L 1 + nth L 0)
      rw [show act p out ⟨3, a⟩ L = pushed out (nth L 1 + nth L 0) from by simp [act]]
      generalize pushed out (nth L 1 + nth L 0) = u at *
      simp only [Thr.lv, Req.lv] at hp ⊢
      repeat' (first|(with_reducible first|refine bt ?_|refine bf ?_|(first|refine bc ?_ ?_|refine gc ?_ ?_|refine pc ?_ ?_)<;>intro _|(refine dr P99 mixed ?_ ?_ ?_;kernel_rfl;kernel_rfl)|refine andC ?_ ?_|refine callE hne ?_|refine callE hki ?_|refine callC hp (fun v2 hv2 => ?_))|simp -implicitDefEqProofs(maxSteps:=2000000)(disch:=first|assumption|omega)[*, ])
      all_goals exact Ends.eqat rfl (by simp) (hG.1.trans hv2)
     by_cases c4 : op = 4
     ·subst c4
      have hn1 : needs 4 = 2 := by simp [needs]
      have hi0 := ix_in (l := L) (i := 0) (by omega) (by omega)
      have hi1 := ix_in (l := L) (i := 1) (by omega) (by omega)
      have hb0 := hin.2 (nth L 0) (nth_mem (by omega))
      have hb1 := hin.2 (nth L 1) (nth_mem (by omega))
      have hp := pushed_p out hob (nth L 1 - nth L 0)
      rw [show act p out ⟨4, a⟩ L = pushed out (nth L 1 - nth L 0) from by simp [act]]
      generalize pushed out (nth L 1 - nth L 0) = u at *
      simp only [Thr.lv, Req.lv] at hp ⊢
      repeat' (first|(with_reducible first|refine bt ?_|refine bf ?_|(first|refine bc ?_ ?_|refine gc ?_ ?_|refine pc ?_ ?_)<;>intro _|(refine dr P99 mixed ?_ ?_ ?_;kernel_rfl;kernel_rfl)|refine andC ?_ ?_|refine callE hne ?_|refine callE hki ?_|refine callC hp (fun v2 hv2 => ?_))|simp -implicitDefEqProofs(maxSteps:=2000000)(disch:=first|assumption|omega)[*, ])
      all_goals exact Ends.eqat rfl (by simp) (hG.1.trans hv2)
     by_cases c5 : op = 5
     ·subst c5
      obtain ⟨ha0, ha1⟩ := h5a (by simp)
      have hlo : a < (nth out.frames (out.frames.length - 1)).locals.length := by rw [← hloc] at ha1; exact ha1
      have hg : PureE Tryz.prog 172 [.agg out.lv, .int .i64 a] (.int .i64 (getL out a)) := getL_p hone ha0 hlo hob.1
      rw [show act p out ⟨5, a⟩ L = pushed out (getL out a) from by simp [act]]
      generalize getL out a = g at *
      have hp := pushed_p out hob g
      generalize pushed out g = u at *
      simp only [Thr.lv, Req.lv] at hp hg ⊢
      repeat' (first|(with_reducible first|refine bt ?_|refine bf ?_|(first|refine bc ?_ ?_|refine gc ?_ ?_|refine pc ?_ ?_)<;>intro _|(refine dr P99 mixed ?_ ?_ ?_;kernel_rfl;kernel_rfl)|refine andC ?_ ?_|refine callE hne ?_|refine callE hki ?_|refine callE hg ?_|refine callC hp (fun v2 hv2 => ?_))|simp -implicitDefEqProofs(maxSteps:=2000000)(disch:=first|assumption|omega)[*, ])
      all_goals exact Ends.eqat rfl (by simp) (hG.1.trans hv2)
     by_cases c6 : op = 6
     ·subst c6
      have hn1 : needs 6 = 1 := by simp [needs]
      have hi0 := ix_in (l := L) (i := 0) (by omega) (by omega)
      obtain ⟨ha0, ha1⟩ := h5a (by simp)
      have hlo : a < (nth out.frames (out.frames.length - 1)).locals.length := by rw [← hloc] at ha1; exact ha1
      have hg : PureE Tryz.prog 173 [.agg out.lv, .int .i64 a, .int .i64 (nth L 0)] (.agg (setL out a (nth L 0)).lv) := setL_p hob hone ha0 hlo
      rw [show act p out ⟨6, a⟩ L = (setL out a (nth L 0), ⟨0, 0, 0⟩) from by simp [act]]
      generalize setL out a (nth L 0) = u at *
      simp only [Thr.lv, Req.lv] at hg ⊢
      repeat' (first|(with_reducible first|refine bt ?_|refine bf ?_|(first|refine bc ?_ ?_|refine gc ?_ ?_|refine pc ?_ ?_)<;>intro _|(refine dr P99 mixed ?_ ?_ ?_;kernel_rfl;kernel_rfl)|refine andC ?_ ?_|refine callE hne ?_|refine callE hki ?_|refine callE hg ?_)|simp -implicitDefEqProofs(maxSteps:=2000000)(disch:=first|assumption|omega)[*, ])
      all_goals exact Ends.eqat rfl (by simp) hG.1
     by_cases c7 : op = 7
     ·subst c7
      have hg : PureE Tryz.prog 166 [.agg out.lv, .int .i64 a] (.agg (jump out a).lv) := jump_p hob hone
      rw [show act p out ⟨7, a⟩ L = (jump out a, ⟨0, 0, 0⟩) from by simp [act]]
      generalize jump out a = u at *
      simp only [Thr.lv, Req.lv] at hg ⊢
      repeat' (first|(with_reducible first|refine bt ?_|refine bf ?_|(first|refine bc ?_ ?_|refine gc ?_ ?_|refine pc ?_ ?_)<;>intro _|(refine dr P99 mixed ?_ ?_ ?_;kernel_rfl;kernel_rfl)|refine andC ?_ ?_|refine callE hne ?_|refine callE hki ?_|refine callE hg ?_)|simp -implicitDefEqProofs(maxSteps:=2000000)(disch:=first|assumption|omega)[*, ])
      all_goals exact Ends.eqat rfl (by simp) hG.1
     by_cases c8 : op = 8
     ·subst c8
      have hn1 : needs 8 = 1 := by simp [needs]
      have hi0 := ix_in (l := L) (i := 0) (by omega) (by omega)
      by_cases hz : nth L 0 = 0
      ·have hg : PureE Tryz.prog 166 [.agg out.lv, .int .i64 a] (.agg (jump out a).lv) := jump_p hob hone
       rw [show act p out ⟨8, a⟩ L = (jump out a, ⟨0, 0, 0⟩) from by simp [act, hz]]
       generalize jump out a = u at *
       simp only [Thr.lv, Req.lv] at hg ⊢
       repeat' (first|(with_reducible first|refine bt ?_|refine bf ?_|(first|refine bc ?_ ?_|refine gc ?_ ?_|refine pc ?_ ?_)<;>intro _|(refine dr P99 mixed ?_ ?_ ?_;kernel_rfl;kernel_rfl)|refine andC ?_ ?_|refine callE hne ?_|refine callE hki ?_|refine callE hg ?_)|simp -implicitDefEqProofs(maxSteps:=2000000)(disch:=first|assumption|omega)[*, ])
       all_goals exact Ends.eqat rfl (by simp) hG.1
      ·rw [show act p out ⟨8, a⟩ L = (out, ⟨0, 0, 0⟩) from by simp [act, hz]]
       simp only [Thr.lv, Req.lv]
       repeat' (first|(with_reducible first|refine bt ?_|refine bf ?_|(first|refine bc ?_ ?_|refine gc ?_ ?_|refine pc ?_ ?_)<;>intro _|(refine dr P99 mixed ?_ ?_ ?_;kernel_rfl;kernel_rfl)|refine andC ?_ ?_|refine callE hne ?_|refine callE hki ?_)|simp -implicitDefEqProofs(maxSteps:=2000000)(disch:=first|assumption|omega)[*, ])
       all_goals exact Ends.eqat rfl (by simp) hG.1
     by_cases c9 : op = 9
     ·subst c9
      obtain ⟨ha0, ha1, ha2, ha3⟩ := h5b rfl
      have hg : PureC Tryz.prog 174 [.agg p.lv, .agg out.lv, .int .i64 a] (.tup [.agg (enter p out a).1.lv, .bool (enter p out a).2]) := enter_p hob ha0 ha1 ha2 ha3
      have he3 := ends_p 3
      have hact : act p out ⟨9, a⟩ L = if (enter p out a).2 = true then ((enter p out a).1, ⟨0, 0, 0⟩) else ends 3 := by simp [act]
      rw [hact]
      clear hact
      generalize enter p out a = w at *
      obtain ⟨w1, w2⟩ := w
      simp only [Thr.lv, Prog.lv, ends, thrEnd] at hg he3
      cases w2
      ·rw [if_neg (by simp)]
       simp only [Thr.lv, Req.lv, ends, thrEnd]
       repeat' (first|(with_reducible first|refine bt ?_|refine bf ?_|(first|refine bc ?_ ?_|refine gc ?_ ?_|refine pc ?_ ?_)<;>intro _|(refine dr P99 mixed ?_ ?_ ?_;kernel_rfl;kernel_rfl)|refine andC ?_ ?_|refine callE hne ?_|refine callE hki ?_|refine callC hg (fun v2 hv2 => ?_)|refine callE he3 ?_)|simp -implicitDefEqProofs(maxSteps:=2000000)(disch:=first|assumption|omega)[*, ])
       all_goals exact Ends.eqat rfl (by simp) (hG.1.trans hv2)
      ·rw [if_pos rfl]
       simp only [Thr.lv, Req.lv]
       repeat' (first|(with_reducible first|refine bt ?_|refine bf ?_|(first|refine bc ?_ ?_|refine gc ?_ ?_|refine pc ?_ ?_)<;>intro _|(refine dr P99 mixed ?_ ?_ ?_;kernel_rfl;kernel_rfl)|refine andC ?_ ?_|refine callE hne ?_|refine callE hki ?_|refine callC hg (fun v2 hv2 => ?_))|simp -implicitDefEqProofs(maxSteps:=2000000)(disch:=first|assumption|omega)[*, ])
       all_goals exact Ends.eqat rfl (by simp) (hG.1.trans hv2)
     by_cases c10 : op = 10
     ·subst c10
      have hg : PureC Tryz.prog 175 [.agg out.lv] (.tup [.agg (leave out).1.lv, .bool (leave out).2]) := leave_p hob hone
      have he3 := ends_p 0
      have hact : act p out ⟨10, a⟩ L = if (leave out).2 = true then ((leave out).1, ⟨0, 0, 0⟩) else ends 0 := by simp [act]
      rw [hact]
      clear hact
      generalize leave out = w at *
      obtain ⟨w1, w2⟩ := w
      simp only [Thr.lv, Req.lv, ends, thrEnd] at hg he3
      cases w2
      ·rw [if_neg (by simp)]
       simp only [Thr.lv, Req.lv, ends, thrEnd]
       repeat' (first|(with_reducible first|refine bt ?_|refine bf ?_|(first|refine bc ?_ ?_|refine gc ?_ ?_|refine pc ?_ ?_)<;>intro _|(refine dr P99 mixed ?_ ?_ ?_;kernel_rfl;kernel_rfl)|refine andC ?_ ?_|refine callE hne ?_|refine callE hki ?_|refine callC hg (fun v2 hv2 => ?_)|refine callE he3 ?_)|simp -implicitDefEqProofs(maxSteps:=2000000)(disch:=first|assumption|omega)[*, ])
       all_goals exact Ends.eqat rfl (by simp) (hG.1.trans hv2)
      ·rw [if_pos rfl]
       simp only [Thr.lv, Req.lv]
       repeat' (first|(with_reducible first|refine bt ?_|refine bf ?_|(first|refine bc ?_ ?_|refine gc ?_ ?_|refine pc ?_ ?_)<;>intro _|(refine dr P99 mixed ?_ ?_ ?_;kernel_rfl;kernel_rfl)|refine andC ?_ ?_|refine callE hne ?_|refine callE hki ?_|refine callC hg (fun v2 hv2 => ?_))|simp -implicitDefEqProofs(maxSteps:=2000000)(disch:=first|assumption|omega)[*, ])
       all_goals exact Ends.eqat rfl (by simp) (hG.1.trans hv2)
     by_cases c26 : op = 26
     ·subst c26
      have he3 := ends_p 0
      rw [show act p out ⟨26, a⟩ L = ends 0 from by simp [act]]
      simp only [Thr.lv, Req.lv, ends, thrEnd] at he3 ⊢
      repeat' (first|(with_reducible first|refine bt ?_|refine bf ?_|(first|refine bc ?_ ?_|refine gc ?_ ?_|refine pc ?_ ?_)<;>intro _|(refine dr P99 mixed ?_ ?_ ?_;kernel_rfl;kernel_rfl)|refine andC ?_ ?_|refine callE hne ?_|refine callE hki ?_|refine callE he3 ?_)|simp -implicitDefEqProofs(maxSteps:=2000000)(disch:=first|assumption|omega)[*, ])
      all_goals exact Ends.eqat rfl (by simp) hG.1
     rw [show act p out ⟨op, a⟩ L = (out, ⟨0, 0, 0⟩) from by simp [act, *]]
     simp only [Thr.lv, Req.lv]
     repeat' (first|(with_reducible first|refine bt ?_|refine bf ?_|(first|refine bc ?_ ?_|refine gc ?_ ?_|refine pc ?_ ?_)<;>intro _|(refine dr P99 mixed ?_ ?_ ?_;kernel_rfl;kernel_rfl)|refine andC ?_ ?_|refine callE hne ?_|refine callE hki ?_)|simp -implicitDefEqProofs(maxSteps:=2000000)(disch:=first|assumption|omega)[*, ])
     all_goals exact Ends.eqat rfl (by simp) hG.1)
end Go.Hb
