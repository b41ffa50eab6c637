/-
  A layer for reasoning about the program's calls, and contracts of its functions (MN). CONDITIONS: none; each theorem bears its own.
-/
import Derived.Test.YtdnbmcnckojglaaGreatML
import Derived.Test.YtdnbmcnckojglaaGreatMD
import Derived.Test.YtdnbmcnckojglaaGreatL8
set_option linter.unusedVariables false
set_option linter.unusedSimpArgs false
namespace Go.Hb
open Go Go.Proofs Go.RowKit
set_option maxRecDepth 100000
set_option maxHeartbeats 800000
attribute [-simp] aC aL aOper aThen aInBlock aIf aPlan aAppend aLen aIndexAddr aSlice aCells aBounds lBr aq initT aev aAppendOwn aAppendNil aAppendNew aAppendRef LV.cells LV.cellsOk getElem?_pos getElem?_neg
def EndC (n : Nat) : Prop := ∀ B x t code, B ≤ 10000 → 0 ≤ t → t < (x.c.threads.length : Int) → count2 x.c < n → XsE B x → PureC Tryz.prog 176 [.agg x.lv, .int .i64 t, .int .i64 code] (.agg (endX n x t code).lv)
theorem xtell_p {n B : Nat} (hE : EndC n) {x : Xs} {t : Int} {l : List Int} (hB : B ≤ 10000) (h0 : 0 ≤ t) (h1 : t < x.c.threads.length) (hc : count2 x.c < n) (h : XsE B x) (hl : l.length ≤ 1000) :
  PureC Tryz.prog 248 [.agg x.lv, .int .i64 t, row l] (.agg (tellX n x t l).lv) := by
 refine .of fun s v => ?_
 have he := hE B x t 2 hB h0 h1 hc h
 have ht := tell_p (at' x.c.threads t) (h.thr _ (at_mem h0 h1)) l hl
 have hx := ix_in h0 h1
 have hn := h.n
 have hw := fun y => with_p (c := x.c) (t := t) (x := y) hn h0 h1
 by_cases hok : (thrTell (at' x.c.threads t) l).2 = true
 ·rw [show tellX n x t l = { x with c := withT x.c t (thrTell (at' x.c.threads t) l).1 } from by unfold tellX; rw [if_pos hok]]
  rw [hok] at ht
  clear hok
  generalize (thrTell (at' x.c.threads t) l).1 = y at *
  replace hw := hw y
  generalize withT x.c t y = z at *
  clear he
  obtain ⟨p, c, xt, seen, woken⟩ := x
  simp only [Xs.lv, Prog.lv, Cor.lv, Thr.lv, at', List.cons_append, List.nil_append] at ht hw hx ⊢
  refine aCalls_go Tryz.func248 rfl (by decide) Tryz.ntmps248 (by simp) false ?_
  have hres : Tryz.f248.results = #[.cell 6 139] := rfl
  repeat' (first|(with_reducible first|refine bt ?_|refine bf ?_|(first|refine bc ?_ ?_|refine gc ?_ ?_|refine pc ?_ ?_)<;>intro _|refine andC ?_ ?_|refine callC ht (fun v1 hv1 => ?_)|refine callE hw ?_)|simp -implicitDefEqProofs(maxSteps:=2000000)(disch:=first|assumption|omega)[*, ])
  all_goals exact Ends.eqat rfl (by simp) hv1
 ·rw [show tellX n x t l = endX n x t 2 from by unfold tellX; rw [if_neg hok]]
  rw [Bool.eq_false_iff.2 hok] at ht
  clear hok hw
  generalize (thrTell (at' x.c.threads t) l).1 = y at *
  generalize endX n x t 2 = u at *
  obtain ⟨p, c, xt, seen, woken⟩ := x
  simp only [Xs.lv, Prog.lv, Cor.lv, Thr.lv, at', List.cons_append, List.nil_append] at ht he hx ⊢
  refine aCalls_go Tryz.func248 rfl (by decide) Tryz.ntmps248 (by simp) false ?_
  have hres : Tryz.f248.results = #[.cell 6 139] := rfl
  repeat' (first|(with_reducible first|refine bt ?_|refine bf ?_|(first|refine bc ?_ ?_|refine gc ?_ ?_|refine pc ?_ ?_)<;>intro _|refine andC ?_ ?_|refine callC ht (fun v1 hv1 => ?_)|refine callC he (fun v2 hv2 => ?_))|simp -implicitDefEqProofs(maxSteps:=2000000)(disch:=first|assumption|omega)[*, ])
  all_goals exact Ends.eqat rfl (by simp) (hv1.trans hv2)
theorem callWC {P : Program} {f : FuncId} {args args' : List LV} {s : List AObj} {v : List Nat} {y : LV} {K : LV → List AObj → List Nat → Prop} (h : PureC P f args' y) (hw : Weaks args args') (k : ∀ v', v <+: v' → K y s v') : aCalls P f args s v K := aCalls_argw hw (callC h k)
theorem xwakeN_p {x : Xs} {t : Int} {l : List Int} (h0 : t < 0) : PureC Tryz.prog 247 [.agg x.lv, .int .i64 t, row l] (.agg x.lv) := by
 refine .of fun s v => ?_
 obtain ⟨p, c, xt, seen, woken⟩ := x
 simp only [Xs.lv, Prog.lv, Cor.lv, List.cons_append, List.nil_append]
 refine aCalls_go Tryz.func247 rfl (by decide) Tryz.ntmps247 (by simp) false ?_
 have hres : Tryz.f247.results = #[.cell 6 139] := rfl
 repeat' (first|(with_reducible first|refine bt ?_|refine bf ?_|(first|refine bc ?_ ?_|refine gc ?_ ?_|refine pc ?_ ?_)<;>intro _)|simp -implicitDefEqProofs(maxSteps:=2000000)(disch:=first|assumption|omega)[*, ])
 exact Ends.eqat rfl (by simp) (List.prefix_refl _)
theorem xwake0_p {x u : Xs} {t : Int} {l : List Int} (hb : x.woken.length ≤ 100000) (hn : x.c.threads.length ≤ 1000) (h0 : 0 ≤ t) (h1 : t < x.c.threads.length)
  (ht : PureC Tryz.prog 248 [.agg (restX { x with woken := x.woken ++ [t] } t 0 0).lv, .int .i64 t, row l] (.agg u.lv)) : PureC Tryz.prog 247 [.agg x.lv, .int .i64 t, row l] (.agg u.lv) := by
 refine .of fun s v => ?_
 have hr := rest_p (x := { x with woken := x.woken ++ [t] }) (t := t) (st := 0) (on := 0) hn h0 h1
 generalize restX { x with woken := x.woken ++ [t] } t 0 0 = z at *
 obtain ⟨p, c, xt, seen, woken⟩ := x
 simp only at hb hn h1
 have h0' : ¬ t < 0 := by omega
 obtain ⟨x1, v1, g1, _, ga⟩ := (GroE.nil v (α := Int)).appr (P := Tryz.prog) (t := 23) (t2 := 23) (by_ := 8) (by kernel_rfl) (by omega) woken (by simp; omega)
 obtain ⟨x2, v2, g2, _, gb⟩ := g1.push (P := Tryz.prog) (t := 23) (t2 := 23) (sz := 1) (by_ := 8) (by kernel_rfl) rfl (by omega) t (by simp; omega)
 simp only [enc_int, List.nil_append] at gb g2
 have c1 := g1.gro.cells
 have c2 := g2.gro.cells
 have hw2 := g2.gro.weak
 have hpre := g2.1
 simp only [Xs.lv, Prog.lv, Cor.lv, List.cons_append, List.nil_append] at ht hr ⊢
 refine aCalls_go Tryz.func247 rfl (by decide) Tryz.ntmps247 (by simp) false ?_
 have hres : Tryz.f247.results = #[.cell 6 139] := rfl
 repeat' (first|(with_reducible first|refine bt ?_|refine bf ?_|(first|refine bc ?_ ?_|refine gc ?_ ?_|refine pc ?_ ?_)<;>intro _|refine andC ?_ ?_|refine callWC hr (by simp [hw2]) (fun v3 hv3 => ?_)|refine callC ht (fun v4 hv4 => ?_))|simp -implicitDefEqProofs(maxSteps:=2000000)(disch:=first|assumption|omega)[*, ])
 all_goals exact Ends.eqat rfl (by simp) (hpre.trans (hv3.trans hv4))
theorem xwake2_p {B n : Nat} (hE : EndC n) (hB : B ≤ 10000) {x : Xs} {k : Nat} {l : List Int} (h1 : k < x.c.threads.length) (hs : (nth x.c.threads k).state = 2) (hc : count2 x.c ≤ n) (h : XsB B x) (hl : l.length ≤ 1000) :
  PureC Tryz.prog 247 [.agg x.lv, .int .i64 k, row l] (.agg (wakeX n x k l).lv) := by
 have h1' : (k : Int) < x.c.threads.length := by omega
 have hr := rest_c2 (x := { x with woken := x.woken ++ [(k : Int)] }) (t := k) 0 (st := 0) (by omega) (by omega) h1'
 have hs' : (at' x.c.threads (k : Int)).state = 2 := hs
 simp only [hs', if_true] at hr
 have hw := h.woken
 have hl' := rest_len { x with woken := x.woken ++ [(k : Int)] } k 0 0
 have hX : XsE B (restX { x with woken := x.woken ++ [(k : Int)] } k 0 0) := by
  refine ⟨by rw [hl']; exact h.n, rest_b h.thr (by omega) h1', ?_, ?_⟩
  ·show x.seen.length + 1 + count2 (restX { x with woken := x.woken ++ [(k : Int)] } k 0 0).c ≤ B
   have := h.seen; omega
  ·show (x.woken ++ [(k : Int)]).length + count2 (restX { x with woken := x.woken ++ [(k : Int)] } k 0 0).c ≤ B
   simp; omega
 unfold wakeX
 rw [if_neg (by omega)]
 exact xwake0_p (by omega) h.n (by omega) h1' (xtell_p hE hB (by omega) (by rw [hl']; exact h1') (by omega) hX hl)
theorem xwake_p {B n : Nat} (hE : EndC n) (hB : B ≤ 10000) {x : Xs} {t : Int} {l : List Int} (h1 : t < x.c.threads.length) (hc : count2 x.c < n) (h : XsE B x) (hw : x.woken.length + 1 + count2 x.c ≤ B) (hl : l.length ≤ 1000) :
  PureC Tryz.prog 247 [.agg x.lv, .int .i64 t, row l] (.agg (wakeX n x t l).lv) := by
 unfold wakeX
 by_cases h0 : t < 0
 ·rw [if_pos h0]; exact xwakeN_p h0
 rw [if_neg h0]
 have hr := rest_c2 (x := { x with woken := x.woken ++ [t] }) (t := t) 0 (st := 0) (by omega) (by omega) h1
 have hl' := rest_len { x with woken := x.woken ++ [t] } t 0 0
 have hX : XsE B (restX { x with woken := x.woken ++ [t] } t 0 0) := by
  refine ⟨by rw [hl']; exact h.n, rest_b h.thr (by omega) h1, ?_, ?_⟩
  ·show x.seen.length + 1 + count2 (restX { x with woken := x.woken ++ [t] } t 0 0).c ≤ B
   have := h.seen; simp only at hr; omega
  ·show (x.woken ++ [t]).length + count2 (restX { x with woken := x.woken ++ [t] } t 0 0).c ≤ B
   simp only at hr; simp; omega
 exact xwake0_p (by omega) h.n (by omega) h1 (xtell_p hE hB (by omega) (by rw [hl']; exact h1) (by simp only at hr; omega) hX hl)
def endK (n : Nat) (code t : Int) (x : Xs) (k : Nat) : Xs := endL n code t (List.range k) (end0 x t code)
theorem endK_succ (n : Nat) (code t : Int) (x : Xs) (k : Nat) : endK n code t x (k + 1) = if (nth (endK n code t x k).c.threads k).state = 2 ∧ (nth (endK n code t x k).c.threads k).on = t then wakeX n (endK n code t x k) k [code] else endK n code t x k := by
 unfold endK
 rw [List.range_succ, endL_app, endL, endL]
theorem Xs.lv' (x : Xs) : x.lv = [row x.p.funcs, .int .i64 x.p.mutexes, row x.p.conds, row x.p.semas, row x.p.chans, row x.p.choices, .int .i64 x.p.threads, .int .i64 x.c.now, row x.c.threads, row x.c.owners, row x.c.counts, row x.c.bufs, row x.c.lockq, row x.c.waitq, row x.c.downq, row x.c.sendq, row x.c.recvq, .int .i64 x.t, row x.seen, row x.woken] := rfl
def Z20 : List LV := [.nils, .int .i64 0, .nils, .nils, .nils, .nils, .int .i64 0, .int .i64 0, .nils, .nils, .nils, .nils, .nils, .nils, .nils, .nils, .nils, .int .i64 0, .nils, .nils]
theorem xend_p {n : Nat} (hE : EndC n) : EndC (n + 1) := fun B x t code hB h0 h1 hc h => by
 refine .of fun s v => ?_
 have hk0 := end0_keeps (code := code) h0 h1 h
 have hK : ∀ k, k ≤ x.c.threads.length → Keeps B (end0 x t code) (endK n code t x k) := fun k hk => endL_keeps (end_keeps B n) _ _ (fun j hj => by rw [hk0.len]; simp at hj; omega) (by have := hk0.c2; omega) hk0.b
 have hn := h.n
 have hsn := h.seen
 have hwT := with_p (c := x.c) (t := t) (x := thrEnd code) hn h0 h1
 have hse := see_p (x := { x with c := withT x.c t (thrEnd code) }) (k := 2) (t := t) (n := code) (by show x.seen.length ≤ _; omega)
 have he := thrEnd_p code
 have h00 : seeX { x with c := withT x.c t (thrEnd code) } 2 t code = endK n code t x 0 := by unfold endK; rw [List.range_zero, endL]; rfl
 rw [h00] at hse
 rw [endX_succ]
 have hfin : endL n code t (List.range (end0 x t code).c.threads.length) (end0 x t code) = endK n code t x (end0 x t code).c.threads.length := rfl
 rw [hfin]
 clear hfin
 have hlen : (end0 x t code).c.threads.length = x.c.threads.length := hk0.len
 rw [hlen]
 generalize hy0 : endK n code t x 0 = y0 at *
 generalize withT x.c t (thrEnd code) = c1 at *
 simp only [Cor.lv, Thr.lv, thrEnd, Xs.lv'] at hwT he hse ⊢
 refine aCalls_go Tryz.func176 rfl (by decide) Tryz.ntmps176 (by simp) false ?_
 have hres : Tryz.f176.results = #[.cell 6 139] := rfl
 repeat' (first|(with_reducible first|refine bt ?_|refine bf ?_|(first|refine bc ?_ ?_|refine gc ?_ ?_|refine pc ?_ ?_)<;>intro _|(refine dr P176 mixed ?_ ?_ ?_;kernel_rfl;kernel_rfl)|refine andC ?_ ?_|refine callE he ?_|refine callE hwT ?_|refine callC hse (fun v1 hv1 => ?_))|simp -implicitDefEqProofs(maxSteps:=2000000)(disch:=first|assumption|omega)[*, ])
 refine aW_for (β := List Nat) false x.c.threads.length (fun k p => v <+: p) (fun k p => [(7, .int .i64 k), (19, .any), (20, .any), (21, .any), (22, .any), (23, .any), (24, .any), (27, .any), (28, .any), (29, .any), (30, .any), (31, .any), (32, .any), (33, .any), (34, .any), (35, .any), (36, .any), (37, .any), (38, .any), (39, .any), (40, .any), (41, .any), (42, .any), (43, .any), (44, .any), (45, .any), (46, .any), (47, .any), (48, .any), (49, .any), (50, .any), (25, .any), (26, .any)]) (fun k p => s ++ [.cells (endK n code t x k).lv, .cells Z20]) (fun k p => p) ?_ ?_
 ·exact ⟨v1, hv1, by (refine Fits.of ?_ (Off.refl _ _); simp [upd_apply, upds_cons]), by rw [hy0]; rfl, rfl⟩
 rintro k v2 hk hv2
 replace hv2 : v <+: v2 := hv2
 have hKk := hK k hk
 have hklen : (endK n code t x k).c.threads.length = x.c.threads.length := hKk.len.trans hlen
 have hsucc := endK_succ n code t x k
 by_cases hlt : k < x.c.threads.length
 ·clear he hwT hse hy0
  have hxk := ix_in (l := (endK n code t x k).c.threads) (i := (k : Int)) (by omega) (by omega)
  by_cases hst : (nth (endK n code t x k).c.threads k).state = 2
  ·by_cases hon : (nth (endK n code t x k).c.threads k).on = t
   ·rw [if_pos ⟨hst, hon⟩] at hsucc
    have hw := xwake2_p hE hB (l := [code]) (by rw [hklen]; exact hlt) hst (by have := hKk.c2; have := hk0.c2; omega) hKk.b (by simp)
    rw [← hsucc] at hw
    have hwk : Weak (.imm 1 1 [.int .i64 code] .full) (row [code]) := Weak.row (l := [code]) (Weaks.refl _) rfl
    generalize hz : endK n code t x (k + 1) = z at *
    generalize endK n code t x k = y at *
    simp only [Xs.lv'] at hw ⊢
    clear hsucc
    repeat' (first|(with_reducible first|refine bt ?_|refine bf ?_|(first|refine bc ?_ ?_|refine gc ?_ ?_|refine pc ?_ ?_)<;>intro _|(refine dr P176 mixed ?_ ?_ ?_;kernel_rfl;kernel_rfl)|refine andC ?_ ?_|refine callWC hw (by simp [hwk]) (fun v3 hv3 => ?_))|simp -implicitDefEqProofs(maxSteps:=2000000)(disch:=first|assumption|omega)[*, ])
    all_goals exact ⟨hlt, v3, hv2.trans hv3, by (refine Fits.of ?_ ?_; rotate_left; (repeat (first | with_reducible exact Off.refl _ _ | refine Off.upd rfl ?_ | refine Off.updO rfl ?_ | refine Off.upds rfl ?_)); simp [upd_apply, upds_cons]), by simp [hz], rfl⟩
   ·rw [if_neg (fun h => hon h.2)] at hsucc
    rw [← hsucc] at hst hon hxk hklen
    generalize hz : endK n code t x (k + 1) = z at *
    rw [← hsucc]
    clear hsucc
    simp only [Xs.lv']
    repeat' (first|(with_reducible first|refine bt ?_|refine bf ?_|(first|refine bc ?_ ?_|refine gc ?_ ?_|refine pc ?_ ?_)<;>intro _|(refine dr P176 mixed ?_ ?_ ?_;kernel_rfl;kernel_rfl)|refine andC ?_ ?_)|simp -implicitDefEqProofs(maxSteps:=2000000)(disch:=first|assumption|omega)[*, ])
    all_goals exact ⟨hlt, v2, hv2, by (refine Fits.of ?_ ?_; rotate_left; (repeat (first | with_reducible exact Off.refl _ _ | refine Off.upd rfl ?_ | refine Off.updO rfl ?_ | refine Off.upds rfl ?_)); simp [upd_apply, upds_cons]), by simp [hz], rfl⟩
  ·rw [if_neg (fun h => hst h.1)] at hsucc
   rw [← hsucc] at hst hxk hklen
   generalize hz : endK n code t x (k + 1) = z at *
   rw [← hsucc]
   clear hsucc
   simp only [Xs.lv']
   repeat' (first|(with_reducible first|refine bt ?_|refine bf ?_|(first|refine bc ?_ ?_|refine gc ?_ ?_|refine pc ?_ ?_)<;>intro _|(refine dr P176 mixed ?_ ?_ ?_;kernel_rfl;kernel_rfl)|refine andC ?_ ?_)|simp -implicitDefEqProofs(maxSteps:=2000000)(disch:=first|assumption|omega)[*, ])
   all_goals exact ⟨hlt, v2, hv2, by (refine Fits.of ?_ ?_; rotate_left; (repeat (first | with_reducible exact Off.refl _ _ | refine Off.upd rfl ?_ | refine Off.updO rfl ?_ | refine Off.upds rfl ?_)); simp [upd_apply, upds_cons]), by simp [hz], rfl⟩
 ·have hke : k = x.c.threads.length := by omega
  subst hke
  clear he hwT hse hy0 hsucc
  show go _ ⟨⟩ ⟨upds _ _, s ++ [.cells (endK n code t x x.c.threads.length).lv, .cells Z20], v2⟩
  generalize endK n code t x x.c.threads.length = y at *
  simp only [Xs.lv', Z20]
  repeat' (first|(with_reducible first|refine bt ?_|refine bf ?_|(first|refine bc ?_ ?_|refine gc ?_ ?_|refine pc ?_ ?_)<;>intro _|(refine dr P176 mixed ?_ ?_ ?_;kernel_rfl;kernel_rfl)|refine andC ?_ ?_)|simp -implicitDefEqProofs(maxSteps:=2000000)(disch:=first|assumption|omega)[*, ])
  all_goals exact Ends.eqat rfl (by simp) hv2
theorem xends_p : ∀ n, EndC n
 | 0 => fun B x t code _ _ _ h => absurd h (by omega)
 | n + 1 => xend_p (xends_p n)
end Go.Hb
