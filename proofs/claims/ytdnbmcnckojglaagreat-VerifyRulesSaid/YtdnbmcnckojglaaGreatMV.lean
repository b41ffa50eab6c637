/-
  A layer for reasoning about the program's calls, and contracts of its functions (MV). CONDITIONS: none; each theorem bears its own.
-/
import Derived.Test.YtdnbmcnckojglaaGreatMU
set_option linter.unusedVariables false
set_option linter.unusedSimpArgs false
namespace Go.Hb
open Go Go.Proofs Go.RowKit
set_option maxRecDepth 100000
set_option maxHeartbeats 800000
attribute [-simp] aC aL aOper aThen aInBlock aIf aPlan aAppend aLen aIndexAddr aSlice aCells aBounds lBr aq initT aev aAppendOwn aAppendNil aAppendNew aAppendRef LV.cells LV.cellsOk getElem?_pos getElem?_neg
def made (id m : Nat) : LV := if m = 0 then row ([] : List (List Int)) else .ref 1 id 0 m true
theorem made_weak (id m : Nat) : Weak (.ref 1 id 0 m true) (made id m) := by
 unfold made
 split
 ·rename_i h; subst h; exact Weak.ref0 _ _ _ _
 ·exact Weak.refl _
theorem zeros_nils (m : Nat) {S : List AObj} {n : Nat} : DeepVs S n (zeros [LV.nils] m) (rowCs (List.replicate m ([] : List Int))) := by
 induction m with
 | zero => exact .nil
 | succ m ih =>
  unfold zeros at *
  rw [List.replicate_succ, List.flatten_cons, List.replicate_succ, rowCs_cons]
  exact .cons _ _ _ _ (.weak _ _ _ (.keep _ rfl) Weak.nilrow) ih
theorem zeros_len (m : Nat) : (zeros [LV.nils] m).length = m := by
 unfold zeros; simp
theorem made_deep {S : List AObj} {n id m : Nat} (hn : n ≤ id) (hS : S[id]? = some (.cells (zeros [LV.nils] m))) : DeepV S n (made id m) (row (List.replicate m ([] : List Int))) := by
 unfold made
 split
 ·rename_i h; subst h; exact .keep _ (by simp)
 ·rename_i h
  refine .weak _ _ _ (.ref 1 id 0 m true (zeros [LV.nils] m) (rowCs (List.replicate m ([] : List Int))) hn hS ?_ (by rw [zeros_len]; omega) ?_) ?_
  ·intro e
   have := zeros_len m
   rw [e] at this; simp at this; omega
  ·rw [List.drop_zero, List.take_of_length_le (by rw [zeros_len]; omega)]
   exact zeros_nils m
  ·exact Weak.row (α := List Int) (Weaks.refl _) (by simp)
theorem new10_p {n : Int} (h0 : 0 ≤ n) (h1 : n ≤ 1000) : PureE Tryz.prog 59 [.int .i64 n] (.agg (Cor.lv ⟨0, [], [], [], List.replicate n.toNat [], [], [], [], List.replicate n.toNat [], List.replicate n.toNat []⟩)) := by
 intro s v
 refine aCalls_deep (aCalls_weak ?_)
 have hb1 : n * 24 ≤ 140737488355328 := by omega
 have hb2 : n ≤ 140737488355328 := by omega
 refine aCalls_go Tryz.func59 rfl (by decide) Tryz.ntmps59 (by simp) false ?_
 have hres : Tryz.f59.results = #[.cell 2 30] := rfl
 repeat' (first|(with_reducible first|refine bt ?_|refine bf ?_|(first|refine bc ?_ ?_|refine gc ?_ ?_|refine pc ?_ ?_)<;>intro _|(refine dr P59 mixed ?_ ?_ ?_;kernel_rfl;kernel_rfl)|refine And.intro ?_ ?_)|simp -implicitDefEqProofs(maxSteps:=2000000)(disch:=first|assumption|omega)[*, ])
 all_goals
  refine ⟨.agg [_, _, _, _, made _ _, _, _, _, made _ _, made _ _], Weak.agg ⟨Weak.refl _, Weak.refl _, Weak.refl _, Weak.refl _, made_weak _ _, Weak.refl _, Weak.refl _, Weak.refl _, made_weak _ _, made_weak _ _, trivial⟩, _, WeakS.refl _, ⟨_, rfl⟩, .agg _ _ ?_⟩
  exact .cons _ _ _ _ (.keep _ rfl) (.cons _ _ _ _ (.weak _ _ _ (.keep _ rfl) Weak.nilrow) (.cons _ _ _ _ (.weak _ _ _ (.keep _ rfl) Weak.nilrow) (.cons _ _ _ _ (.weak _ _ _ (.keep _ rfl) Weak.nilrow) (.cons _ _ _ _ (made_deep (by omega) (by simp)) (.cons _ _ _ _ (.weak _ _ _ (.keep _ rfl) Weak.nilrow) (.cons _ _ _ _ (.weak _ _ _ (.keep _ rfl) Weak.nilrow) (.cons _ _ _ _ (.weak _ _ _ (.keep _ rfl) Weak.nilrow) (.cons _ _ _ _ (made_deep (by omega) (by simp)) (.cons _ _ _ _ (made_deep (by omega) (by simp)) .nil)))))))))
theorem new09_p {m k : Nat} {l : List Int} (h1 : m ≤ 1000) (h3 : k ≤ 1000) (hl : l.length ≤ 1000) : PureC Tryz.prog 58 [.int .i64 m, .int .i64 k, row l] (.agg (Cor.lv ⟨0, [], List.replicate m (-1), l, [], List.replicate m [], List.replicate k [], List.replicate l.length [], [], []⟩)) := by
 intro s v
 refine aCalls_deep (aCalls_weak ?_)
 have hb1 : (m : Int) * 24 ≤ 140737488355328 := by omega
 have hb2 : (m : Int) ≤ 140737488355328 := by omega
 have hb3 : (k : Int) * 24 ≤ 140737488355328 := by omega
 have hb4 : (k : Int) ≤ 140737488355328 := by omega
 have hb5 : (l.length : Int) * 24 ≤ 140737488355328 := by omega
 have hb6 : (l.length : Int) ≤ 140737488355328 := by omega
 refine aCalls_go Tryz.func58 rfl (by decide) Tryz.ntmps58 (by simp) false ?_
 have hres : Tryz.f58.results = #[.cell 6 30] := rfl
 apply aWs_key (P := Tryz.prog) (r := none) (N := 33) (own := false) (id := 0) (fun t' s' v' => v = v' ∧ ∃ J i7 iL iW iD, s' = s ++ (.cells [.int .i64 0, .nils, .nils, .nils, .nils, .nils, .nils, .nils, .nils, .nils] :: J) ∧ t' 0 = .int .i64 m ∧ t' 2 = row l ∧ t' 6 = .ptr s.length 0 ∧ t' 7 = .ptr (s.length + (i7 + 1)) 0 ∧ t' 8 = .int .i64 0 ∧
  J[i7]? = some (.cells [.int .i64 0, .nils, .nils, .nils, .nils, .ref 1 (s.length + (iL + 1)) 0 m true, .ref 1 (s.length + (iW + 1)) 0 k true, .ref 1 (s.length + (iD + 1)) 0 l.length true, .nils, .nils]) ∧
  J[iL]? = some (.cells (zeros [LV.nils] m)) ∧ J[iW]? = some (.cells (zeros [LV.nils] k)) ∧ J[iD]? = some (.cells (zeros [LV.nils] l.length)) ∧ iL ≠ i7 ∧ iW ≠ i7 ∧ iD ≠ i7)
 ·intro key
  repeat' (first|(with_reducible first|refine bt ?_|refine bf ?_|(first|refine bc ?_ ?_|refine gc ?_ ?_|refine pc ?_ ?_)<;>intro _|(refine dr P58 mixed ?_ ?_ ?_;kernel_rfl;kernel_rfl)|refine And.intro ?_ ?_)|simp -implicitDefEqProofs(maxSteps:=2000000)(disch:=first|assumption|omega)[*, ])
  all_goals exact key _ _ _ ⟨rfl, _, _, _, _, _, rfl, rfl, rfl, rfl, rfl, rfl, rfl, rfl, rfl, rfl, by omega, by omega, by omega⟩
 rintro t0 s0 v0 ⟨rfl, J, i7, iL, iW, iD, rfl, e0, e2, e6, e7, e8, h7, hL, hW, hD, n1, n2, n3⟩
 have hl7 := (List.getElem?_eq_some_iff.1 h7).1
 have hget : ∀ c, (J.set i7 c)[i7]? = some c := fun c => List.getElem?_set_self hl7
 have hself : J.set i7 (.cells [.int .i64 0, .nils, .nils, .nils, .nils, .ref 1 (s.length + (iL + 1)) 0 m true, .ref 1 (s.length + (iW + 1)) 0 k true, .ref 1 (s.length + (iD + 1)) 0 l.length true, .nils, .nils]) = J := by
  have e := (List.getElem?_eq_some_iff.1 h7).2
  rw [← e, List.set_getElem_self]
 refine aW_for (β := LV × List Nat) false m (fun j q => GroE v q.2 (List.replicate j (-1 : Int)) q.1) (fun j q => [(8, .int .i64 j), (17, .any), (18, .any), (19, .any), (22, .any), (23, .any), (24, .any), (25, .any), (26, .any), (20, .any), (21, .any)]) (fun _ q => s ++ (.cells [.int .i64 0, .nils, .nils, .nils, .nils, .nils, .nils, .nils, .nils, .nils] :: J.set i7 (.cells [.int .i64 0, .nils, q.1, .nils, .nils, .ref 1 (s.length + (iL + 1)) 0 m true, .ref 1 (s.length + (iW + 1)) 0 k true, .ref 1 (s.length + (iD + 1)) 0 l.length true, .nils, .nils]))) (fun _ q => q.2) ?_ ?_
 ·exact ⟨(.nils, v), GroE.nil _, by (refine Fits.of ?_ (Off.refl _ _); simp [upd_apply, upds_cons, *]), by rw [hself], rfl⟩
 rintro j ⟨x, v1⟩ hj hG
 simp only at hG
 have hgc := hG.gro.cells
 by_cases hlt : j < m
 ·obtain ⟨x2, v2, g2, _, gb⟩ := hG.push (P := Tryz.prog) (t := 23) (t2 := 23) (sz := 1) (by_ := 8) (by kernel_rfl) rfl (by omega) (-1 : Int) (by simp; omega)
  simp only [enc_int] at gb
  rw [← List.replicate_succ'] at g2
  have hc2 := g2.gro.cells
  have hlt' : (j : Int) < m := by omega
  repeat' (first|(with_reducible first|refine bt ?_|refine bf ?_|(first|refine bc ?_ ?_|refine gc ?_ ?_|refine pc ?_ ?_)<;>intro _|(refine dr P58 mixed ?_ ?_ ?_;kernel_rfl;kernel_rfl)|refine And.intro ?_ ?_)|simp -implicitDefEqProofs(maxSteps:=2000000)(disch:=first|assumption|omega)[*, ])
  all_goals exact ⟨hlt, (x2, v2), g2, by (refine Fits.of ?_ ?_; rotate_left; (repeat (first | with_reducible exact Off.refl _ _ | refine Off.upd rfl ?_ | refine Off.updO rfl ?_ | refine Off.upds rfl ?_)); simp [upd_apply, upds_cons]), by simp, rfl⟩
 ·have hje : j = m := by omega
  subst hje
  have hlt' : ¬ (j : Int) < j := by omega
  obtain ⟨x4, v4, g4, _, ga⟩ := (GroE.nil v1 (α := Int)).appr (P := Tryz.prog) (t := 23) (t2 := 23) (by_ := 8) (by kernel_rfl) (by omega) l (by simp; omega)
  simp only [List.nil_append] at g4
  have hc4 := g4.gro.cells
  have hpre := hG.1.trans g4.1
  repeat' (first|(with_reducible first|refine bt ?_|refine bf ?_|(first|refine bc ?_ ?_|refine gc ?_ ?_|refine pc ?_ ?_)<;>intro _|(refine dr P58 mixed ?_ ?_ ?_;kernel_rfl;kernel_rfl)|refine And.intro ?_ ?_)|simp -implicitDefEqProofs(maxSteps:=2000000)(disch:=first|assumption|omega)[*, ])
  all_goals
   refine ⟨.agg [_, _, _, _, _, made _ _, made _ _, made _ _, _, _], Weak.agg ⟨Weak.refl _, Weak.refl _, Weak.refl _, Weak.refl _, Weak.refl _, made_weak _ _, made_weak _ _, made_weak _ _, Weak.refl _, Weak.refl _, trivial⟩, _, WeakS.refl _, ⟨_, rfl⟩, .agg _ _ ?_⟩
   have hx1 : DeepV (s ++ (.cells [.int .i64 0, .nils, x, x4, .nils, .ref 1 (s.length + (iL + 1)) 0 j true, .ref 1 (s.length + (iW + 1)) 0 k true, .ref 1 (s.length + (iD + 1)) 0 l.length true, .nils, .nils] :: J.set i7 (.cells [.int .i64 0, .nils, x, x4, .nils, .ref 1 (s.length + (iL + 1)) 0 j true, .ref 1 (s.length + (iW + 1)) 0 k true, .ref 1 (s.length + (iD + 1)) 0 l.length true, .nils, .nils]))) s.length x (row (List.replicate j (-1 : Int))) := .weak _ _ _ (.keep _ (hG.gro.under _)) hG.gro.weak
   have hx4 : DeepV (s ++ (.cells [.int .i64 0, .nils, x, x4, .nils, .ref 1 (s.length + (iL + 1)) 0 j true, .ref 1 (s.length + (iW + 1)) 0 k true, .ref 1 (s.length + (iD + 1)) 0 l.length true, .nils, .nils] :: J.set i7 (.cells [.int .i64 0, .nils, x, x4, .nils, .ref 1 (s.length + (iL + 1)) 0 j true, .ref 1 (s.length + (iW + 1)) 0 k true, .ref 1 (s.length + (iD + 1)) 0 l.length true, .nils, .nils]))) s.length x4 (row l) := .weak _ _ _ (.keep _ (g4.gro.under _)) g4.gro.weak
   refine .cons _ _ _ _ (.keep _ rfl) (.cons _ _ _ _ (.weak _ _ _ (.keep _ rfl) Weak.nilrow) (.cons _ _ _ _ hx1 (.cons _ _ _ _ hx4 (.cons _ _ _ _ (.weak _ _ _ (.keep _ rfl) Weak.nilrow) (.cons _ _ _ _ (made_deep (by omega) ?_) (.cons _ _ _ _ (made_deep (by omega) ?_) (.cons _ _ _ _ (made_deep (by omega) ?_) (.cons _ _ _ _ (.weak _ _ _ (.keep _ rfl) Weak.nilrow) (.cons _ _ _ _ (.weak _ _ _ (.keep _ rfl) Weak.nilrow) .nil)))))))))
   ·rw [get_app, List.getElem?_cons_succ, List.getElem?_set_ne (fun e => n1 e.symm)]; exact hL
   ·rw [get_app, List.getElem?_cons_succ, List.getElem?_set_ne (fun e => n2 e.symm)]; exact hW
   ·rw [get_app, List.getElem?_cons_succ, List.getElem?_set_ne (fun e => n3 e.symm)]; exact hD
theorem new11_p {p : Prog} (hp : MayP p) : PureC Tryz.prog 30 [.agg [row p.funcs, .int .i64 p.mutexes, row p.conds, row p.semas, row p.chans, row p.choices, .int .i64 p.threads]] (.agg (coreNew p).lv) := by
 refine .of fun s v => ?_
 have hm := hp.mutexes
 have hn9 := new09_p (m := p.mutexes.toNat) (k := p.conds.length) (l := p.semas) (by omega) (by have := hp.conds.1; omega) (by have := hp.semas.1; omega)
 rw [show ((p.mutexes.toNat : Nat) : Int) = p.mutexes by omega] at hn9
 have hn10 := new10_p (n := p.chans.length) (by omega) (by have := hp.chans.1; omega)
 have hfn := hp.funcs
 have hfc := hp.code _ (at_in (l := p.funcs) (t := 0) (by omega) (by omega))
 have hnew := thrNew_p (fs := p.funcs) (mu := p.mutexes) (th := p.threads) (co := p.conds) (se := p.semas) (ch := p.chans) (cho := p.choices) (f := 0) (by omega) (by omega) hfc.1 hfc.2.1
 have hth : Weak (.imm 5 1 (thrNew p 0).lv .full) (row [thrNew p 0]) := Weak.row (l := [thrNew p 0]) (by rw [rowCs_cons]; simp only [rowCs_nil, List.append_nil]; exact Weaks.refl _) rfl
 unfold coreNew
 rw [show (p.chans.length : Int).toNat = p.chans.length from Int.toNat_natCast _] at hn10
 generalize List.replicate p.chans.length ([] : List Int) = rc at *
 generalize List.replicate p.mutexes.toNat ([] : List Int) = rm at *
 generalize List.replicate p.mutexes.toNat (-1 : Int) = ro at *
 generalize List.replicate p.conds.length ([] : List Int) = rw' at *
 generalize List.replicate p.semas.length ([] : List Int) = rs at *
 have hnew' : PureE Tryz.prog 60 [.agg [row p.funcs, .int .i64 p.mutexes, row p.conds, row p.semas, row p.chans, row p.choices, .int .i64 p.threads], .int .i64 0] (.agg (thrNew p 0).lv) := hnew
 clear hnew
 generalize thrNew p 0 = th0 at *
 simp only [Cor.lv, Thr.lv] at hn9 hn10 hnew' hth ⊢
 refine aCalls_go Tryz.func30 rfl (by decide) Tryz.ntmps30 (by simp) false ?_
 have hres : Tryz.f30.results = #[.cell 2 30] := rfl
 repeat' (first|(with_reducible first|refine bt ?_|refine bf ?_|(first|refine bc ?_ ?_|refine gc ?_ ?_|refine pc ?_ ?_)<;>intro _|refine And.intro ?_ ?_|refine callC hn9 (fun v1 hv1 => ?_)|refine callE hn10 ?_|refine callE hnew' ?_)|simp -implicitDefEqProofs(maxSteps:=2000000)(disch:=first|assumption|omega)[*, ])
 all_goals refine Ends.at (by simp) (Weak.agg ?_) hv1
 all_goals exact ⟨Weak.refl _, hth, Weak.refl _, Weak.refl _, Weak.refl _, Weak.refl _, Weak.refl _, Weak.refl _, Weak.refl _, Weak.refl _, trivial⟩
end Go.Hb
