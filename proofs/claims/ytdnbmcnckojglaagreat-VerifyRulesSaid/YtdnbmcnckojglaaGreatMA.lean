/-
  A layer for reasoning about the program's calls, and contracts of its functions (MA). CONDITIONS: none; each theorem bears its own.
-/
import Derived.Test.YtdnbmcnckojglaaGreatTy
import Derived.Test.YtdnbmcnckojglaaGreatL8
set_option linter.unusedVariables false
set_option linter.unusedSimpArgs false
namespace Go.Hb
open Go Go.Proofs Go.RowKit
set_option maxRecDepth 100000
set_option maxHeartbeats 800000
attribute [-simp] aC aL aOper aThen aInBlock aIf aPlan aAppend aLen aIndexAddr aSlice aCells aBounds lBr aq initT aev aAppendOwn aAppendNil aAppendNew aAppendRef LV.cells LV.cellsOk getElem?_pos getElem?_neg

theorem keep_p (n : Int) : PureE Tryz.prog 65 [.int .i64 n] (.int .i64 (keep n)) := by
 refine .of fun s v => ?_
 refine aCalls_go Tryz.func65 rfl (by decide) Tryz.ntmps65 (by simp) false ?_
 have hres : Tryz.f65.results = #[.tmp 2] := rfl
 repeat' (first|(with_reducible first|refine bt ?_|refine bf ?_|(first|refine bc ?_ ?_|refine gc ?_ ?_|refine pc ?_ ?_)<;>intro _)|simp -implicitDefEqProofs(maxSteps:=2000000)(disch:=first|assumption|omega)[*, ])
 all_goals exact EndsE.eq (by simp [keep, *]) (by simp)
theorem thrEnd_p (c : Int) : PureE Tryz.prog 246 [.int .i64 c] (.agg (thrEnd c).lv) := by
 refine .of fun s v => ?_
 refine aCalls_go Tryz.func246 rfl (by decide) Tryz.ntmps246 (by simp) false ?_
 have hres : Tryz.f246.results = #[.cell 2 66] := rfl
 repeat' (first|(with_reducible first|refine bt ?_|refine bf ?_|(first|refine bc ?_ ?_|refine gc ?_ ?_|refine pc ?_ ?_)<;>intro _)|simp -implicitDefEqProofs(maxSteps:=2000000)(disch:=first|assumption|omega)[*, ])
 refine EndsE.at (by simp) (Weak.agg ?_)
 exact ⟨Weak.refl _, Weak.refl _, Weak.nilrow, Weak.nilrow, Weak.refl _, trivial⟩
theorem frame_p {fs : List Fn_} {mu th f : Int} {co se ch : List Int} {cho : List (List Int)} (h0 : 0 ≤ f) (h1 : f < fs.length) (h2 : 0 ≤ (nth fs f.toNat).locals) (h3 : (nth fs f.toNat).locals ≤ 8) :
  PureE Tryz.prog 101 [.agg [row fs, .int .i64 mu, row co, row se, row ch, row cho, .int .i64 th], .int .i64 f] (.agg [.int .i64 f, .int .i64 0, row (List.replicate (nth fs f.toNat).locals.toNat (0 : Int))]) := by
 intro s v
 have hb1 : (nth fs f.toNat).locals * 8 ≤ 140737488355328 := by omega
 have hb2 : (nth fs f.toNat).locals ≤ 140737488355328 := by omega
 refine aCalls_deep (aCalls_weak ?_)
 refine aCalls_go Tryz.func101 rfl (by decide) Tryz.ntmps101 (by simp) false ?_
 have hres : Tryz.f101.results = #[.cell 4 68] := rfl
 have hx := ix_in h0 h1
 repeat' (first|(with_reducible first|refine bt ?_|refine bf ?_|(first|refine bc ?_ ?_|refine gc ?_ ?_|refine pc ?_ ?_)<;>intro _)|simp -implicitDefEqProofs(maxSteps:=2000000)(disch:=first|assumption|omega)[*, ])
 generalize (nth fs f.toNat).locals.toNat = n at *
 by_cases hn : n = 0
 ·subst hn
  exact ⟨.agg [.int .i64 f, .int .i64 0, row ([] : List Int)], Weak.agg ⟨Weak.refl _, Weak.refl _, Weak.ref0 _ _ _ _, trivial⟩, _, WeakS.refl _, ⟨_, rfl⟩, .agg _ _ (.cons _ _ _ _ (.keep _ rfl) (.cons _ _ _ _ (.keep _ rfl) (.cons _ _ _ _ (.keep _ rfl) .nil)))⟩
 ·refine ⟨_, Weak.refl _, _, WeakS.refl _, ⟨_, rfl⟩, .agg _ _ (.cons _ _ _ _ (.keep _ rfl) (.cons _ _ _ _ (.keep _ rfl) (.cons _ _ _ _ ?_ .nil)))⟩
  have := DeepV.ref_row (S := s ++ [AObj.cells [row fs, LV.int IntKind.i64 mu, row co, row se, row ch, row cho, LV.int IntKind.i64 th], AObj.cells [LV.int IntKind.i64 f, LV.int IntKind.i64 0, LV.ref 1 (s.length + 2) 0 n true], AObj.cells (zeros [LV.int IntKind.i64 0] n)]) (n := s.length) (id := s.length + 2) (fl := true) (l := List.replicate n (0 : Int)) (by omega) (by rw [get_app, ← zeros_row]; rfl) (by simp [← List.length_eq_zero_iff, rowCs_len, hn])
  simpa using this
theorem thrNew_p {fs : List Fn_} {mu th f : Int} {co se ch : List Int} {cho : List (List Int)} (h0 : 0 ≤ f) (h1 : f < fs.length) (h2 : 0 ≤ (nth fs f.toNat).locals) (h3 : (nth fs f.toNat).locals ≤ 8) :
  PureE Tryz.prog 60 [.agg [row fs, .int .i64 mu, row co, row se, row ch, row cho, .int .i64 th], .int .i64 f] (.agg (thrNew ⟨fs, mu, co, se, ch, cho, th⟩ f).lv) := by
 refine .of fun s v => ?_
 have hf := frame_p (mu := mu) (th := th) (co := co) (se := se) (ch := ch) (cho := cho) h0 h1 h2 h3
 refine aCalls_go Tryz.func60 rfl (by decide) Tryz.ntmps60 (by simp) false ?_
 have hres : Tryz.f60.results = #[.cell 4 66] := rfl
 repeat' (first|(with_reducible first|refine bt ?_|refine bf ?_|(first|refine bc ?_ ?_|refine gc ?_ ?_|refine pc ?_ ?_)<;>intro _|refine callE hf ?_)|simp -implicitDefEqProofs(maxSteps:=2000000)(disch:=first|assumption|omega)[*, ])
 refine EndsE.at (by simp) (Weak.agg ⟨Weak.refl _, Weak.refl _, ?_, Weak.nilrow, Weak.refl _, trivial⟩)
 refine Weak.row (α := Frm) ?_ rfl
 unfold thrNew
 rw [rowCs_cons]
 exact Weaks.refl _
theorem getL_p {fr : List Frm} {sk : List Int} {st on co i : Int} (h0 : fr ≠ []) (h1 : 0 ≤ i) (h2 : i < (nth fr (fr.length - 1)).locals.length) (hb : fr.length ≤ 8) :
  PureE Tryz.prog 172 [.agg [.int .i64 st, .int .i64 on, row fr, row sk, .int .i64 co], .int .i64 i] (.int .i64 (getL ⟨st, on, fr, sk, co⟩ i)) := by
 refine .of fun s v => ?_
 have hf0 : fr.length ≠ 0 := fun e => h0 (List.length_eq_zero_iff.1 e)
 refine aCalls_go Tryz.func172 rfl (by decide) Tryz.ntmps172 (by simp) false ?_
 have hres : Tryz.f172.results = #[.tmp 4] := rfl
 have hx := ix_in (l := fr) (i := (fr.length : Int) - 1) (by omega) (by omega)
 have hx2 := ix_in h1 h2
 have e1 : ((fr.length : Int) - 1).toNat = fr.length - 1 := by omega
 rw [e1] at hx
 repeat' (first|(with_reducible first|refine bt ?_|refine bf ?_|(first|refine bc ?_ ?_|refine gc ?_ ?_|refine pc ?_ ?_)<;>intro _)|simp -implicitDefEqProofs(maxSteps:=2000000)(disch:=first|assumption|omega)[*, ])
 exact EndsE.eqat rfl (by simp)
theorem fetch_p {fs : List Fn_} {mu th : Int} {cn se ch : List Int} {cho : List (List Int)} {fr : List Frm} {sk : List Int} {st on co : Int} (h0 : fr ≠ []) (hb : fr.length ≤ 8)
  (h1 : 0 ≤ (nth fr (fr.length - 1)).func) (h2 : (nth fr (fr.length - 1)).func < fs.length) (h3 : 0 ≤ (nth fr (fr.length - 1)).pc) (h4 : (nth fs (nth fr (fr.length - 1)).func.toNat).code.length ≤ 1000) :
  PureE Tryz.prog 164 [.agg [row fs, .int .i64 mu, row cn, row se, row ch, row cho, .int .i64 th], .agg [.int .i64 st, .int .i64 on, row fr, row sk, .int .i64 co]] (.tup [.agg (fetch ⟨fs, mu, cn, se, ch, cho, th⟩ ⟨st, on, fr, sk, co⟩).1.lv, .bool (fetch ⟨fs, mu, cn, se, ch, cho, th⟩ ⟨st, on, fr, sk, co⟩).2]) := by
 refine .of fun s v => ?_
 have hf0 : fr.length ≠ 0 := fun e => h0 (List.length_eq_zero_iff.1 e)
 refine aCalls_go Tryz.func164 rfl (by decide) Tryz.ntmps164 (by simp) false ?_
 have hres : Tryz.f164.results = #[.cell 4 101, .tmp 5] := rfl
 have hx := ix_in (l := fr) (i := (fr.length : Int) - 1) (by omega) (by omega)
 have hx2 := ix_in h1 h2
 have e1 : ((fr.length : Int) - 1).toNat = fr.length - 1 := by omega
 rw [e1] at hx
 by_cases hc : ((nth fs (nth fr (fr.length - 1)).func.toNat).code.length : Int) ≤ (nth fr (fr.length - 1)).pc
 ·repeat' (first|(with_reducible first|refine bt ?_|refine bf ?_|(first|refine bc ?_ ?_|refine gc ?_ ?_|refine pc ?_ ?_)<;>intro _)|simp -implicitDefEqProofs(maxSteps:=2000000)(disch:=first|assumption|omega)[*, ])
  refine EndsE.eqat ?_ (by simp)
  unfold fetch topF at'
  simp only
  rw [if_pos hc]
  rfl
 ·have hx3 := ix_in (l := (nth fs (nth fr (fr.length - 1)).func.toNat).code) h3 (by omega)
  repeat' (first|(with_reducible first|refine bt ?_|refine bf ?_|(first|refine bc ?_ ?_|refine gc ?_ ?_|refine pc ?_ ?_)<;>intro _)|simp -implicitDefEqProofs(maxSteps:=2000000)(disch:=first|assumption|omega)[*, ])
  refine EndsE.eqat ?_ (by simp)
  unfold fetch topF at'
  simp only
  rw [if_neg hc]
  rfl

def ThrG (t : Thr) (s : List AObj) (v : List Nat) (y : LV) (s' : List AObj) (v' : List Nat) : Prop := s = s' ∧ ∃ xF xS, y = .agg [.int .i64 t.state, .int .i64 t.on, xF, xS, .int .i64 t.code] ∧ Gro v v' t.frames xF ∧ Gro v v' t.stack xS
theorem rclone_g {fr : List Frm} {sk : List Int} {st on co : Int} (hb : ThrB ⟨st, on, fr, sk, co⟩) {s : List AObj} {v : List Nat} : aCalls Tryz.prog 50 [.agg [.int .i64 st, .int .i64 on, row fr, row sk, .int .i64 co]] s v (ThrG ⟨st, on, fr, sk, co⟩ s v) := by
 obtain ⟨hb1, hb2, hb3⟩ := hb
 simp only at hb1 hb2 hb3
 suffices h : aCalls Tryz.prog 50 [.agg [.int .i64 st, .int .i64 on, row fr, row sk, .int .i64 co]] s v (fun y s' v' => (∃ J, s ++ J = s') ∧ ∃ xF xS, y = .agg [.int .i64 st, .int .i64 on, xF, xS, .int .i64 co] ∧ Gro v v' fr xF ∧ Gro v v' sk xS) by
  refine aCalls_drop (aCalls_mono h ?_)
  rintro x s' v' ⟨⟨J, h1⟩, xF, xS, h2, h3, h4⟩
  subst h2
  exact ⟨s, J, h1.symm, rfl, by simp [h3.under, h4.under], fun _ _ ho => .inl ho, rfl, xF, xS, rfl, h3, h4⟩
 refine aCalls_go Tryz.func50 rfl (by decide) Tryz.ntmps50 (by simp) false ?_
 have hres : Tryz.f50.results = #[.cell 2 66] := rfl
 repeat' (first|(with_reducible first|refine bt ?_|refine bf ?_|(first|refine bc ?_ ?_|refine gc ?_ ?_|refine pc ?_ ?_)<;>intro _)|simp -implicitDefEqProofs(maxSteps:=2000000)(disch:=first|assumption|omega)[*, ])
 refine aW_for (β := LV × List Nat × List AObj) false fr.length (fun k p => Gro v p.2.1 (fr.take k) p.1) (fun k p => [(3, p.1), (4, .int .i64 k), (8, .any), (9, .any), (10, .any), (11, .any), (12, .any), (15, .any), (16, .any), (17, .any), (18, .any), (19, .any), (5, .any), (6, .any), (20, .any), (21, .any), (22, .any), (23, .any), (24, .any), (25, .any), (26, .any), (27, .any), (28, .any), (13, .any), (14, .any)]) (fun _ p => s ++ (.cells [.int .i64 st, .int .i64 on, row fr, row sk, .int .i64 co] :: .cells [.int .i64 0, .int .i64 0, .nils, .nils, .int .i64 0] :: p.2.2)) (fun _ p => p.2.1) ?_ ?_
 ·exact ⟨(.nils, v, []), Gro.nil _, by (refine Fits.of ?_ (Off.refl _ _); simp [upd_apply, upds_cons]), rfl, rfl⟩
 rintro k ⟨xF, v1, J⟩ hk hF
 simp only at hF
 by_cases hlt : k < fr.length
 ·have hlc := hb3 _ (nth_mem hlt)
  have hx := ix_in (l := fr) (i := (k : Int)) (by omega) (by omega)
  obtain ⟨x1, v2, g1, _, ga⟩ := (Gro.nil v1 (α := Int)).appr (P := Tryz.prog) (t := 23) (t2 := 23) (by_ := 8) (by kernel_rfl) (by omega) (nth fr k).locals (by simp; omega)
  have hF2 := hF.mono g1.pre
  have g1w := g1.weak
  simp only [List.nil_append] at g1w
  obtain ⟨xF2, v3, f1, fk, fa⟩ := hF2.push (P := Tryz.prog) (t := 64) (t2 := 64) (sz := 3) (by_ := 40) (by kernel_rfl) rfl (by omega) (nth fr k) (ds := [.int .i64 (nth fr k).func, .int .i64 (nth fr k).pc, x1]) ⟨Weak.refl _, Weak.refl _, g1w, trivial⟩ (by simp [g1.under]) (by simp; omega)
  have hx1 := g1.cells
  have hxF := hF.cells
  repeat' (first|(with_reducible first|refine bt ?_|refine bf ?_|(first|refine bc ?_ ?_|refine gc ?_ ?_|refine pc ?_ ?_)<;>intro _)|simp -implicitDefEqProofs(maxSteps:=2000000)(disch:=first|assumption|omega)[*, ])
  exact ⟨hlt, (xF2, v3, J ++ [.cells [.int .i64 (nth fr k).func, .int .i64 (nth fr k).pc, x1]]), by show Gro v v3 (fr.take (k + 1)) xF2; rw [take_succ_nth hlt]; exact f1, by (refine Fits.of ?_ ?_; rotate_left; (repeat (first | with_reducible exact Off.refl _ _ | refine Off.upd rfl ?_ | refine Off.updO rfl ?_ | refine Off.upds rfl ?_)); simp [upd_apply, upds_cons]), by simp, rfl⟩
 ·have : k = fr.length := by omega
  subst this
  rw [List.take_of_length_le (Nat.le_refl _)] at hF
  obtain ⟨x1, v2, g1, _, ga⟩ := (Gro.nil v1 (α := Int)).appr (P := Tryz.prog) (t := 23) (t2 := 23) (by_ := 8) (by kernel_rfl) (by omega) sk (by simp; omega)
  have hF2 := hF.mono g1.pre
  have g1b := g1.back hF.pre
  simp only [List.nil_append] at g1b
  have hx1 := g1.cells
  have hxF := hF.cells
  repeat' (first|(with_reducible first|refine bt ?_|refine bf ?_|(first|refine bc ?_ ?_|refine gc ?_ ?_|refine pc ?_ ?_)<;>intro _)|simp -implicitDefEqProofs(maxSteps:=2000000)(disch:=first|assumption|omega)[*, ])
  exact ⟨xF, x1, ⟨rfl, rfl⟩, hF2, g1b⟩
theorem ThrG.weak {t : Thr} {s s' : List AObj} {v v' : List Nat} {y : LV} (h : ThrG t s v y s' v') : Weak y (.agg t.lv) ∧ s = s' ∧ v <+: v' := by
 obtain ⟨h1, xF, xS, rfl, h3, h4⟩ := h
 exact ⟨Weak.agg ⟨Weak.refl _, Weak.refl _, h3.weak, h4.weak, Weak.refl _, trivial⟩, h1, h3.pre⟩
theorem rclone_p {fr : List Frm} {sk : List Int} {st on co : Int} (hb : ThrB ⟨st, on, fr, sk, co⟩) : PureC Tryz.prog 50 [.agg [.int .i64 st, .int .i64 on, row fr, row sk, .int .i64 co]] (.agg [.int .i64 st, .int .i64 on, row fr, row sk, .int .i64 co]) := fun s v =>
 aCalls_weak (aCalls_mono (rclone_g hb) fun x s' v' h => ⟨_, s', h.weak.1, WeakS.refl _, rfl, h.weak.2.1, h.weak.2.2⟩)
theorem callG {t : Thr} {f : FuncId} {args : List LV} {s : List AObj} {v : List Nat} {K : LV → List AObj → List Nat → Prop} (h : aCalls Tryz.prog f args s v (ThrG t s v)) (k : ∀ xF xS v', (xF.cells = [xF] ∧ xF.cellsOk = true) → (xS.cells = [xS] ∧ xS.cellsOk = true) → Gro v v' t.frames xF → Gro v v' t.stack xS → K (.agg [.int .i64 t.state, .int .i64 t.on, xF, xS, .int .i64 t.code]) s v') : aCalls Tryz.prog f args s v K := by
 refine aCalls_mono h ?_
 rintro y s' v' ⟨rfl, xF, xS, rfl, h3, h4⟩
 exact k xF xS v' h3.cells h4.cells h3 h4


theorem push_p {fr : List Frm} {sk : List Int} {st on co x : Int} (hb : ThrB ⟨st, on, fr, sk, co⟩) : PureC Tryz.prog 171 [.agg [.int .i64 st, .int .i64 on, row fr, row sk, .int .i64 co], .int .i64 x] (.tup [.agg (push ⟨st, on, fr, sk, co⟩ x).1.lv, .bool (push ⟨st, on, fr, sk, co⟩ x).2]) := by
 refine .of fun s v => ?_
 have hb' := hb
 obtain ⟨hb1, hb2, hb3⟩ := hb'
 simp only at hb1 hb2 hb3
 refine aCalls_go Tryz.func171 rfl (by decide) Tryz.ntmps171 (by simp) false ?_
 have hres : Tryz.f171.results = #[.cell 4 66, .tmp 5] := rfl
 unfold push
 simp only
 by_cases hl : 16 ≤ sk.length
 ·rw [if_pos hl]
  have hl' : (16 : Int) ≤ sk.length := by omega
  repeat' (first|(with_reducible first|refine bt ?_|refine bf ?_|(first|refine bc ?_ ?_|refine gc ?_ ?_|refine pc ?_ ?_)<;>intro _|(refine dr P171 mixed ?_ ?_ ?_;kernel_rfl;kernel_rfl))|simp -implicitDefEqProofs(maxSteps:=2000000)(disch:=first|assumption|omega)[*, ])
  exact Ends.eqat rfl (by simp) (List.prefix_refl _)
 ·rw [if_neg hl]
  have hl' : ¬ (16 : Int) ≤ sk.length := by omega
  have hk := keep_p x
  generalize keep x = kx at *
  repeat' (first|(with_reducible first|refine bt ?_|refine bf ?_|(first|refine bc ?_ ?_|refine gc ?_ ?_|refine pc ?_ ?_)<;>intro _|(refine dr P171 mixed ?_ ?_ ?_;kernel_rfl;kernel_rfl)|refine callG (rclone_g hb) (fun xF xS v1 cF cS g1 g2 => ?_)|refine callE hk ?_)|simp -implicitDefEqProofs(maxSteps:=2000000)(disch:=first|assumption|omega)[*, ])
  obtain ⟨x1, v2, f1, _, fa⟩ := g2.push (P := Tryz.prog) (t := 23) (t2 := 23) (sz := 1) (by_ := 8) (by kernel_rfl) rfl (by omega) kx (ds := [.int .i64 kx]) ⟨Weak.refl _, trivial⟩ (by simp) (by simp; omega)
  have c1 := f1.cells
  have u1 := f1.under
  have u2 := g1.under
  repeat' (first|(with_reducible first|refine bt ?_|refine bf ?_|(first|refine bc ?_ ?_|refine gc ?_ ?_|refine pc ?_ ?_)<;>intro _|(refine dr P171 mixed ?_ ?_ ?_;kernel_rfl;kernel_rfl))|simp -implicitDefEqProofs(maxSteps:=2000000)(disch:=first|assumption|omega)[*, ])
  exact Ends.at (by simp [*]) (Weak.tup ⟨Weak.agg ⟨Weak.refl _, Weak.refl _, g1.weak, f1.weak, Weak.refl _, trivial⟩, Weak.refl _, trivial⟩) f1.pre
theorem pop_p {fr : List Frm} {sk : List Int} {st on co : Int} (hb : ThrB ⟨st, on, fr, sk, co⟩) : PureC Tryz.prog 168 [.agg [.int .i64 st, .int .i64 on, row fr, row sk, .int .i64 co]] (.tup [.agg (pop ⟨st, on, fr, sk, co⟩).1.lv, .int .i64 (pop ⟨st, on, fr, sk, co⟩).2.1, .bool (pop ⟨st, on, fr, sk, co⟩).2.2]) := by
 refine .of fun s v => ?_
 have hb' := hb
 obtain ⟨hb1, hb2, hb3⟩ := hb'
 simp only at hb1 hb2 hb3
 refine aCalls_go Tryz.func168 rfl (by decide) Tryz.ntmps168 (by simp) false ?_
 have hres : Tryz.f168.results = #[.cell 2 66, .tmp 3, .tmp 4] := rfl
 unfold pop
 simp only
 by_cases hl : sk.length = 0
 ·rw [if_pos hl]
  repeat' (first|(with_reducible first|refine bt ?_|refine bf ?_|(first|refine bc ?_ ?_|refine gc ?_ ?_|refine pc ?_ ?_)<;>intro _)|simp -implicitDefEqProofs(maxSteps:=2000000)(disch:=first|assumption|omega)[*, ])
  exact Ends.eqat rfl (by simp) (List.prefix_refl _)
 ·rw [if_neg hl]
  have hx := ix_in (l := sk) (i := (sk.length : Int) - 1) (by omega) (by omega)
  have e1 : ((sk.length : Int) - 1).toNat = sk.length - 1 := by omega
  rw [e1] at hx
  have hsl := aSlice_row_h (P := Tryz.prog) (t := 23) (κ' := .i64) (l := sk) (b := (sk.length : Int) - 1) (by omega) (by omega)
  rw [e1] at hsl
  repeat' (first|(with_reducible first|refine bt ?_|refine bf ?_|(first|refine bc ?_ ?_|refine gc ?_ ?_|refine pc ?_ ?_)<;>intro _|refine callC (rclone_p hb) (fun v1 hv1 => ?_))|simp -implicitDefEqProofs(maxSteps:=2000000)(disch:=first|assumption|omega)[*, ])
  exact Ends.eqat rfl (by simp) hv1
theorem enter_p {fs : List Fn_} {mu th f : Int} {cn se ch : List Int} {cho : List (List Int)} {fr : List Frm} {sk : List Int} {st on co : Int} (hb : ThrB ⟨st, on, fr, sk, co⟩) (h0 : 0 ≤ f) (h1 : f < fs.length) (h2 : 0 ≤ (nth fs f.toNat).locals) (h3 : (nth fs f.toNat).locals ≤ 8) :
  PureC Tryz.prog 174 [.agg [row fs, .int .i64 mu, row cn, row se, row ch, row cho, .int .i64 th], .agg [.int .i64 st, .int .i64 on, row fr, row sk, .int .i64 co], .int .i64 f] (.tup [.agg (enter ⟨fs, mu, cn, se, ch, cho, th⟩ ⟨st, on, fr, sk, co⟩ f).1.lv, .bool (enter ⟨fs, mu, cn, se, ch, cho, th⟩ ⟨st, on, fr, sk, co⟩ f).2]) := by
 refine .of fun s v => ?_
 have hb' := hb
 obtain ⟨hb1, hb2, hb3⟩ := hb'
 simp only at hb1 hb2 hb3
 have hf := frame_p (mu := mu) (th := th) (co := cn) (se := se) (ch := ch) (cho := cho) h0 h1 h2 h3
 refine aCalls_go Tryz.func174 rfl (by decide) Tryz.ntmps174 (by simp) false ?_
 have hres : Tryz.f174.results = #[.cell 6 66, .tmp 7] := rfl
 unfold enter frameOf at'
 simp only
 generalize hL : List.replicate (nth fs f.toNat).locals.toNat (0 : Int) = lo at *
 by_cases hl : 8 ≤ fr.length
 ·rw [if_pos hl]
  have hl' : (8 : Int) ≤ fr.length := by omega
  repeat' (first|(with_reducible first|refine bt ?_|refine bf ?_|(first|refine bc ?_ ?_|refine gc ?_ ?_|refine pc ?_ ?_)<;>intro _|(refine dr P174 mixed ?_ ?_ ?_;kernel_rfl;kernel_rfl))|simp -implicitDefEqProofs(maxSteps:=2000000)(disch:=first|assumption|omega)[*, ])
  exact Ends.eqat rfl (by simp) (List.prefix_refl _)
 ·rw [if_neg hl]
  have hl' : ¬ (8 : Int) ≤ fr.length := by omega
  repeat' (first|(with_reducible first|refine bt ?_|refine bf ?_|(first|refine bc ?_ ?_|refine gc ?_ ?_|refine pc ?_ ?_)<;>intro _|(refine dr P174 mixed ?_ ?_ ?_;kernel_rfl;kernel_rfl)|refine callG (rclone_g hb) (fun xF xS v1 cF cS g1 g2 => ?_)|refine callE hf ?_)|simp -implicitDefEqProofs(maxSteps:=2000000)(disch:=first|assumption|omega)[*, ])
  obtain ⟨x1, v2, f1, _, fa⟩ := g1.push (P := Tryz.prog) (t := 64) (t2 := 64) (sz := 3) (by_ := 40) (by kernel_rfl) rfl (by omega) ⟨f, 0, lo⟩ (ds := [.int .i64 f, .int .i64 0, row lo]) (Weaks.refl _) (by simp) (by simp; omega)
  have c1 := f1.cells
  have u1 := f1.under
  have u2 := g2.under
  repeat' (first|(with_reducible first|refine bt ?_|refine bf ?_|(first|refine bc ?_ ?_|refine gc ?_ ?_|refine pc ?_ ?_)<;>intro _|(refine dr P174 mixed ?_ ?_ ?_;kernel_rfl;kernel_rfl))|simp -implicitDefEqProofs(maxSteps:=2000000)(disch:=first|assumption|omega)[*, ])
  exact Ends.at (by simp [*]) (Weak.tup ⟨Weak.agg ⟨Weak.refl _, Weak.refl _, f1.weak, g2.weak, Weak.refl _, trivial⟩, Weak.refl _, trivial⟩) f1.pre
theorem leave_p {fr : List Frm} {sk : List Int} {st on co : Int} (hb : ThrB ⟨st, on, fr, sk, co⟩) (h0 : fr ≠ []) : PureC Tryz.prog 175 [.agg [.int .i64 st, .int .i64 on, row fr, row sk, .int .i64 co]] (.tup [.agg (leave ⟨st, on, fr, sk, co⟩).1.lv, .bool (leave ⟨st, on, fr, sk, co⟩).2]) := by
 refine .of fun s v => ?_
 have hb' := hb
 obtain ⟨hb1, hb2, hb3⟩ := hb'
 simp only at hb1 hb2 hb3
 have hf0 : fr.length ≠ 0 := fun e => h0 (List.length_eq_zero_iff.1 e)
 refine aCalls_go Tryz.func175 rfl (by decide) Tryz.ntmps175 (by simp) false ?_
 have hres : Tryz.f175.results = #[.cell 2 66, .tmp 3] := rfl
 unfold leave
 simp only
 have e1 : ((fr.length : Int) - 1).toNat = fr.length - 1 := by omega
 have hsl := aSlice_row_h (P := Tryz.prog) (t := 64) (κ' := .i64) (l := fr) (b := (fr.length : Int) - 1) (by omega) (by omega)
 rw [e1] at hsl
 repeat' (first|(with_reducible first|refine bt ?_|refine bf ?_|(first|refine bc ?_ ?_|refine gc ?_ ?_|refine pc ?_ ?_)<;>intro _|(refine dr P175 mixed ?_ ?_ ?_;kernel_rfl;kernel_rfl)|refine callC (rclone_p hb) (fun v1 hv1 => ?_))|simp -implicitDefEqProofs(maxSteps:=2000000)(disch:=first|assumption|omega)[*, ])
 exact Ends.eqat rfl (by simp) hv1
end Go.Hb
