/-
  A layer for reasoning about the program's calls, and contracts of its functions (MO). CONDITIONS: none; each theorem bears its own.
-/
import Derived.Test.YtdnbmcnckojglaaGreatMN
import Derived.Test.YtdnbmcnckojglaaGreatL9
import Derived.Test.YtdnbmcnckojglaaGreatL6
set_option linter.unusedVariables false
set_option linter.unusedSimpArgs false
namespace Go.Hb
open Go Go.Proofs Go.RowKit
set_option maxRecDepth 100000
set_option maxHeartbeats 800000
attribute [-simp] aC aL aOper aThen aInBlock aIf aPlan aAppend aLen aIndexAddr aSlice aCells aBounds lBr aq initT aev aAppendOwn aAppendNil aAppendNew aAppendRef LV.cells LV.cellsOk getElem?_pos getElem?_neg
def Small (x : Xs) : Prop := x.seen.length ≤ 300 ∧ x.woken.length ≤ 300
theorem xsE_mid {p : Prog} (hp : MayP p) {x : Xs} (h : Inv p (-1) noD x.c) (hs : Small x) {c' : Cor} (hth : c'.threads = x.c.threads) : XsE 1000 { x with c := c' } ∧ count2 c' < fu := by
 have hc : count2 c' = count2 x.c := by unfold count2; rw [hth]
 have h2 := h.c2 hp
 have hn := h.nthr.2
 have ht := hp.threads.2
 unfold fu at h2 ⊢
 refine ⟨⟨by show c'.threads.length ≤ 1000; rw [hth]; omega, fun th hth' => ?_, ?_, ?_⟩, by omega⟩
 ·have hth' : th ∈ c'.threads := hth'
  rw [hth] at hth'
  obtain ⟨k, hk, rfl⟩ := List.getElem_of_mem hth'
  have := h.thr k hk
  rw [nth_eq hk] at this
  exact thrI_b hp this
 ·show x.seen.length + 1 + count2 c' ≤ 1000
  have := hs.1; omega
 ·show x.woken.length + count2 c' ≤ 1000
  have := hs.2; omega
theorem xsE_of {p : Prog} (hp : MayP p) {x : Xs} (h : Inv p (-1) noD x.c) (hs : Small x) : XsE 1000 x ∧ count2 x.c < fu := xsE_mid hp h hs rfl
theorem xsE_g {p : Prog} (hp : MayP p) {y : Xs} (h : Inv p (-1) noD y.c) (h1 : y.seen.length ≤ 900) (h2 : y.woken.length ≤ 900) : XsE 1000 y ∧ count2 y.c < fu := by
 have hc := h.c2 hp
 have he := (xsE_mid hp (x := { y with seen := [], woken := [] }) h ⟨by simp, by simp⟩ (c' := y.c) rfl).1
 unfold fu at hc ⊢
 exact ⟨⟨he.n, he.thr, by omega, by omega⟩, hc⟩
theorem xendF_p {x : Xs} {t code : Int} (h0 : 0 ≤ t) (h1 : t < x.c.threads.length) (h : XsE 1000 x ∧ count2 x.c < fu) : PureC Tryz.prog 176 [.agg x.lv, .int .i64 t, .int .i64 code] (.agg (endF x t code).lv) := xends_p fu 1000 x t code (by omega) h0 h1 h.2 h.1
theorem xtellF_p {x : Xs} {t : Int} {l : List Int} (h0 : 0 ≤ t) (h1 : t < x.c.threads.length) (h : XsE 1000 x ∧ count2 x.c < fu) (hl : l.length ≤ 1000) : PureC Tryz.prog 248 [.agg x.lv, .int .i64 t, row l] (.agg (tellF x t l).lv) := xtell_p (xends_p fu) (by omega) h0 h1 h.2 h.1 hl
theorem xwakeF_p {x : Xs} {t : Int} {l : List Int} (h1 : t < x.c.threads.length) (h : XsE 1000 x ∧ count2 x.c < fu) (hw : x.woken.length + 1 + count2 x.c ≤ 1000) (hl : l.length ≤ 1000) : PureC Tryz.prog 247 [.agg x.lv, .int .i64 t, row l] (.agg (wakeF x t l).lv) := xwake_p (xends_p fu) (by omega) h1 h.2 h.1 hw hl
theorem imm1_row {n : Nat} {cs : List LV} {r : Right} {l : List Int} (hc : cs = rowCs l) (hn : n = l.length) : Weak (.imm 1 n cs r) (row l) := by subst hc; exact Weak.row (Weaks.refl _) hn
theorem spawn_p {p : Prog} (hp : MayP p) {x : Xs} (h : Run p x) (hs : Small x) {f : Int} (h0 : 0 ≤ f) (h1 : f < p.funcs.length) : PureC Tryz.prog 177 [.agg x.lv, .int .i64 f] (.agg (spawnX x f).lv) := by
 refine .of fun s v => ?_
 obtain e : x.p = p := h.p
 subst e
 have hE := xsE_of hp h.inv hs
 have hs1 := hs.1
 have hs2 := hs.2
 have hn1 := h.inv.nthr.2
 have hn2 := hp.threads.2
 have hfc := hp.code _ (at_in h0 h1)
 have hnew := thrNew_p (fs := x.p.funcs) (mu := x.p.mutexes) (th := x.p.threads) (co := x.p.conds) (se := x.p.semas) (ch := x.p.chans) (cho := x.p.choices) h0 h1 hfc.1 hfc.2.1
 unfold spawnX
 by_cases hth : x.p.threads ≤ x.c.threads.length
 ·rw [if_pos hth]
  have hse := see_p (x := x) (k := 1) (t := x.t) (n := -1) (by omega)
  have hE2 := xsE_g (y := seeX x 1 x.t (-1)) hp h.inv (by show (x.seen ++ [_]).length ≤ 900; simp; omega) (by show x.woken.length ≤ 900; omega)
  have hte := xtellF_p (x := seeX x 1 x.t (-1)) (t := x.t) (l := [-1]) h.t.1 h.t.2 hE2 (by simp)
  have hw : Weak (.imm 1 1 [.int .i64 (-1)] .full) (row [(-1 : Int)]) := imm1_row rfl rfl
  generalize hy : tellF (seeX x 1 x.t (-1)) x.t [-1] = z at *
  generalize hy2 : seeX x 1 x.t (-1) = y at *
  simp only [Xs.lv'] at hse hte ⊢
  refine aCalls_go Tryz.func177 rfl (by decide) Tryz.ntmps177 (by simp) false ?_
  have hres : Tryz.f177.results = #[.cell 4 139] := rfl
  repeat' (first|(with_reducible first|refine bt ?_|refine bf ?_|(first|refine bc ?_ ?_|refine gc ?_ ?_|refine pc ?_ ?_)<;>intro _|(refine dr P177 mixed ?_ ?_ ?_;kernel_rfl;kernel_rfl)|refine andC ?_ ?_|refine callC hse (fun v1 hv1 => ?_)|refine callWC hte (by simp [hw]) (fun v2 hv2 => ?_))|simp -implicitDefEqProofs(maxSteps:=2000000)(disch:=first|assumption|omega)[*, ])
  all_goals exact Ends.eqat rfl (by simp) (hv1.trans hv2)
 ·rw [if_neg hth]
  have hth' : ¬ (x.p.threads ≤ (x.c.threads.length : Int)) := hth
  obtain ⟨x1, v1, g1, _, ga⟩ := (GroE.nil v (α := Thr)).appr (P := Tryz.prog) (t := 28) (t2 := 28) (by_ := 72) (by kernel_rfl) (by omega) x.c.threads (by simp; omega)
  obtain ⟨x2, v2, g2, _, gb⟩ := g1.push (P := Tryz.prog) (t := 28) (t2 := 28) (sz := 5) (by_ := 72) (by kernel_rfl) rfl (by omega) (thrNew x.p f) (by simp; omega)
  obtain ⟨x3, v3, g3, _, gc⟩ := (GroE.nil v2 (α := Int)).appr (P := Tryz.prog) (t := 23) (t2 := 23) (by_ := 8) (by kernel_rfl) (by omega) x.woken (by simp; omega)
  obtain ⟨x4, v4, g4, _, gd⟩ := g3.push (P := Tryz.prog) (t := 23) (t2 := 23) (sz := 1) (by_ := 8) (by kernel_rfl) rfl (by omega) (x.c.threads.length : Int) (by simp; omega)
  have hx2 : Run x.p (seeX { x with c := { x.c with threads := x.c.threads ++ [thrNew x.p f] }, woken := x.woken ++ [(x.c.threads.length : Int)] } 1 x.t x.c.threads.length) ∧ Inv x.p (-1) noD { x.c with threads := x.c.threads ++ [thrNew x.p f] } := spawn_run hp h h0 h1 hth
  have hse := see_p (x := { x with c := { x.c with threads := x.c.threads ++ [thrNew x.p f] }, woken := x.woken ++ [(x.c.threads.length : Int)] }) (k := 1) (t := x.t) (n := x.c.threads.length) (by show x.seen.length ≤ _; omega)
  have hE2 := xsE_g hp hx2.1.inv (by show (x.seen ++ [_]).length ≤ 900; simp; omega) (by show (x.woken ++ [_]).length ≤ 900; simp; omega)
  have hte := xtellF_p (l := [(x.c.threads.length : Int)]) hx2.1.t.1 hx2.1.t.2 hE2 (by simp)
  have hw : Weak (.imm 1 1 [.int .i64 (x.c.threads.length : Int)] .full) (row [(x.c.threads.length : Int)]) := imm1_row rfl rfl
  clear hx2 hE2 hE hfc
  generalize hy2 : seeX { x with c := { x.c with threads := x.c.threads ++ [thrNew x.p f] }, woken := x.woken ++ [(x.c.threads.length : Int)] } 1 x.t x.c.threads.length = y at *
  have hyt : y.t = x.t := by rw [← hy2]; rfl
  rw [hyt] at hte
  clear hyt
  generalize tellF y x.t [(x.c.threads.length : Int)] = z at *
  have c1 := g1.gro.cells
  have c2 := g2.gro.cells
  have c3 := g3.gro.cells
  have c4 := g4.gro.cells
  have w2 := g2.gro.weak
  have w4 := g4.gro.weak
  simp only [List.nil_append] at w2 w4
  simp only [enc_int, enc_thr] at gb gd
  have hpre := g2.1.trans g4.1
  simp only [Xs.lv'] at hse hte ⊢
  simp only [Thr.lv, Prog.lv] at hnew
  clear hy2
  refine aCalls_go Tryz.func177 rfl (by decide) Tryz.ntmps177 (by simp) false ?_
  have hres : Tryz.f177.results = #[.cell 4 139] := rfl
  repeat' (first|(with_reducible first|refine bt ?_|refine bf ?_|(first|refine bc ?_ ?_|refine gc ?_ ?_|refine pc ?_ ?_)<;>intro _|(refine dr P177 mixed ?_ ?_ ?_;kernel_rfl;kernel_rfl)|refine andC ?_ ?_|refine callE hnew ?_|refine callWC hse (by simp [w2, w4]) (fun v5 hv5 => ?_)|refine callWC hte (by simp [hw]) (fun v6 hv6 => ?_))|simp -implicitDefEqProofs(maxSteps:=2000000)(disch:=first|assumption|omega)[*, ])
  all_goals exact Ends.eqat rfl (by simp) (hpre.trans (hv5.trans hv6))
theorem join_p {p : Prog} (hp : MayP p) {x : Xs} (h : Run p x) (hs : Small x) (j : Int) : PureC Tryz.prog 179 [.agg x.lv, .int .i64 j] (.agg (joinX x j).lv) := by
 refine .of fun s v => ?_
 have hE := xsE_of hp h.inv hs
 have hn1 := h.inv.nthr.2
 have hn2 := hp.threads.2
 unfold joinX
 by_cases h1 : j < 0 ∨ (x.c.threads.length : Int) ≤ j ∨ j = x.t
 ·rw [if_pos h1]
  have he := xendF_p (code := 5) h.t.1 h.t.2 hE
  generalize endF x x.t 5 = z at *
  simp only [Xs.lv'] at he ⊢
  by_cases h2 : j < 0
  ·refine aCalls_go Tryz.func179 rfl (by decide) Tryz.ntmps179 (by simp) false ?_
   have hres : Tryz.f179.results = #[.cell 4 139] := rfl
   repeat' (first|(with_reducible first|refine bt ?_|refine bf ?_|(first|refine bc ?_ ?_|refine gc ?_ ?_|refine pc ?_ ?_)<;>intro _|(refine dr P179 mixed ?_ ?_ ?_;kernel_rfl;kernel_rfl)|refine andC ?_ ?_|refine callC he (fun v2 hv2 => ?_))|simp -implicitDefEqProofs(maxSteps:=2000000)(disch:=first|assumption|omega)[*, ])
   all_goals exact Ends.eqat rfl (by simp) hv2
  ·by_cases h3 : (x.c.threads.length : Int) ≤ j
   ·refine aCalls_go Tryz.func179 rfl (by decide) Tryz.ntmps179 (by simp) false ?_
    have hres : Tryz.f179.results = #[.cell 4 139] := rfl
    repeat' (first|(with_reducible first|refine bt ?_|refine bf ?_|(first|refine bc ?_ ?_|refine gc ?_ ?_|refine pc ?_ ?_)<;>intro _|(refine dr P179 mixed ?_ ?_ ?_;kernel_rfl;kernel_rfl)|refine andC ?_ ?_|refine callC he (fun v2 hv2 => ?_))|simp -implicitDefEqProofs(maxSteps:=2000000)(disch:=first|assumption|omega)[*, ])
    all_goals exact Ends.eqat rfl (by simp) hv2
   ·have h4 : j = x.t := by omega
    subst h4
    clear h1
    refine aCalls_go Tryz.func179 rfl (by decide) Tryz.ntmps179 (by simp) false ?_
    have hres : Tryz.f179.results = #[.cell 4 139] := rfl
    repeat' (first|(with_reducible first|refine bt ?_|refine bf ?_|(first|refine bc ?_ ?_|refine gc ?_ ?_|refine pc ?_ ?_)<;>intro _|(refine dr P179 mixed ?_ ?_ ?_;kernel_rfl;kernel_rfl)|refine andC ?_ ?_|refine callC he (fun v2 hv2 => ?_))|simp -implicitDefEqProofs(maxSteps:=2000000)(disch:=first|assumption|omega)[*, ])
    all_goals exact Ends.eqat rfl (by simp) hv2
 ·rw [if_neg h1]
  have q1 : ¬ j < 0 := by omega
  have q2 : ¬ (x.c.threads.length : Int) ≤ j := by omega
  have q3 : ¬ j = x.t := by omega
  have hx := ix_in (l := x.c.threads) (i := j) (by omega) (by omega)
  by_cases h9 : (at' x.c.threads j).state = 9
  ·rw [if_pos h9]
   unfold at' at h9 ⊢
   have hte := xtellF_p (l := [(nth x.c.threads j.toNat).code]) h.t.1 h.t.2 hE (by simp)
   have hw : Weak (.imm 1 1 [.int .i64 (nth x.c.threads j.toNat).code] .full) (row [(nth x.c.threads j.toNat).code]) := imm1_row rfl rfl
   generalize tellF x x.t [(nth x.c.threads j.toNat).code] = z at *
   simp only [Xs.lv'] at hte ⊢
   clear h1
   refine aCalls_go Tryz.func179 rfl (by decide) Tryz.ntmps179 (by simp) false ?_
   have hres : Tryz.f179.results = #[.cell 4 139] := rfl
   repeat' (first|(with_reducible first|refine bt ?_|refine bf ?_|(first|refine bc ?_ ?_|refine gc ?_ ?_|refine pc ?_ ?_)<;>intro _|(refine dr P179 mixed ?_ ?_ ?_;kernel_rfl;kernel_rfl)|refine andC ?_ ?_|refine callWC hte (by simp [hw]) (fun v2 hv2 => ?_))|simp -implicitDefEqProofs(maxSteps:=2000000)(disch:=first|assumption|omega)[*, ])
   all_goals exact Ends.eqat rfl (by simp) hv2
  ·rw [if_neg h9]
   have hr := rest_p (x := x) (t := x.t) (st := 2) (on := j) (by omega) h.t.1 h.t.2
   generalize restX x x.t 2 j = z at *
   simp only [Xs.lv'] at hr ⊢
   unfold at' at h9
   clear h1
   refine aCalls_go Tryz.func179 rfl (by decide) Tryz.ntmps179 (by simp) false ?_
   have hres : Tryz.f179.results = #[.cell 4 139] := rfl
   repeat' (first|(with_reducible first|refine bt ?_|refine bf ?_|(first|refine bc ?_ ?_|refine gc ?_ ?_|refine pc ?_ ?_)<;>intro _|(refine dr P179 mixed ?_ ?_ ?_;kernel_rfl;kernel_rfl)|refine andC ?_ ?_|refine callC hr (fun v2 hv2 => ?_))|simp -implicitDefEqProofs(maxSteps:=2000000)(disch:=first|assumption|omega)[*, ])
   all_goals exact Ends.eqat rfl (by simp) hv2
theorem semas_p {p : Prog} (hp : MayP p) {x : Xs} (h : Run p x) (hs : Small x) {kind a : Int} (h0 : 0 ≤ a) (h1 : a < p.semas.length) : PureC Tryz.prog 181 [.agg x.lv, .int .i64 kind, .int .i64 a] (.agg (semaX x kind a).lv) := by
 refine .of fun s v => ?_
 have hl := h.inv.len
 have hb := h.inv.corB hp
 have hn1 := h.inv.nthr.2
 have hn2 := hp.threads.2
 have hc := h.inv.things.counts a.toNat (by rw [hl.counts]; omega)
 unfold semaX
 by_cases hk : kind = 11
 ·rw [if_pos hk]
  have hd := down_p (t := x.t) hb h0 (by rw [hl.counts]; exact h1) (by rw [hl.downq]; exact h1) hc
  have hth : (downC x.c a x.t).1.threads = x.c.threads := by unfold downC; split <;> rfl
  generalize downC x.c a x.t = r at *
  obtain ⟨c1, is⟩ := r
  simp only at hth
  simp only [Cor.lv] at hd
  cases is
  ·simp only [Bool.false_eq_true, if_false]
   have hr := rest_p (x := { x with c := c1 }) (t := x.t) (st := 5) (on := a) (by show c1.threads.length ≤ _; rw [hth]; omega) h.t.1 (by show x.t < (c1.threads.length : Int); rw [hth]; exact h.t.2)
   generalize restX { x with c := c1 } x.t 5 a = z at *
   simp only [Xs.lv'] at hr ⊢
   clear hth
   refine aCalls_go Tryz.func181 rfl (by decide) Tryz.ntmps181 (by simp) false ?_
   have hres : Tryz.f181.results = #[.cell 6 139] := rfl
   repeat' (first|(with_reducible first|refine bt ?_|refine bf ?_|(first|refine bc ?_ ?_|refine gc ?_ ?_|refine pc ?_ ?_)<;>intro _|refine andC ?_ ?_|refine callC hd (fun v1 hv1 => ?_)|refine callC hr (fun v2 hv2 => ?_))|simp -implicitDefEqProofs(maxSteps:=2000000)(disch:=first|assumption|omega)[*, ])
   all_goals exact Ends.eqat rfl (by simp) (hv1.trans hv2)
  ·simp only [if_true, Xs.lv']
   refine aCalls_go Tryz.func181 rfl (by decide) Tryz.ntmps181 (by simp) false ?_
   have hres : Tryz.f181.results = #[.cell 6 139] := rfl
   repeat' (first|(with_reducible first|refine bt ?_|refine bf ?_|(first|refine bc ?_ ?_|refine gc ?_ ?_|refine pc ?_ ?_)<;>intro _|refine andC ?_ ?_|refine callC hd (fun v1 hv1 => ?_))|simp -implicitDefEqProofs(maxSteps:=2000000)(disch:=first|assumption|omega)[*, ])
   all_goals exact Ends.eqat rfl (by simp) hv1
 ·rw [if_neg hk]
  have hu := up_p hb h0 (by rw [hl.counts]; exact h1) (by rw [hl.downq]; exact h1) hc
  have hth : (upC x.c a).1.threads = x.c.threads := by unfold upC; split <;> (try split) <;> rfl
  have hti : (upC x.c a).2 < (x.c.threads.length : Int) := by
   unfold upC
   split
   ·split <;> (simp only; omega)
   ·rename_i hq
    have := h.inv.mem 5 a.toNat (nth (at' x.c.downq a) 0) (by show _ ∈ nth x.c.downq a.toNat; exact nth_mem (by unfold at' at hq; omega))
    exact this.2
  have hE := xsE_mid hp h.inv hs hth
  have hs2 := hs.2
  generalize upC x.c a = r at *
  obtain ⟨c1, t⟩ := r
  simp only at hth hti hE
  have hwk := xwakeF_p (x := { x with c := c1 }) (t := t) (l := []) (by show t < (c1.threads.length : Int); rw [hth]; exact hti) hE (by show x.woken.length + 1 + count2 c1 ≤ 1000; have := hE.2; unfold fu at this; omega) (by simp)
  have hw : Weak .nils (row ([] : List Int)) := Weak.nilrow
  generalize wakeF { x with c := c1 } t [] = z at *
  simp only [Cor.lv] at hu
  simp only [Xs.lv'] at hwk ⊢
  clear hth hE
  refine aCalls_go Tryz.func181 rfl (by decide) Tryz.ntmps181 (by simp) false ?_
  have hres : Tryz.f181.results = #[.cell 6 139] := rfl
  repeat' (first|(with_reducible first|refine bt ?_|refine bf ?_|(first|refine bc ?_ ?_|refine gc ?_ ?_|refine pc ?_ ?_)<;>intro _|refine andC ?_ ?_|refine callC hu (fun v1 hv1 => ?_)|refine callWC hwk (by simp [hw]) (fun v2 hv2 => ?_))|simp -implicitDefEqProofs(maxSteps:=2000000)(disch:=first|assumption|omega)[*, ])
  all_goals exact Ends.eqat rfl (by simp) (hv1.trans hv2)
end Go.Hb
