/-
  A layer for reasoning about the program's calls, and contracts of its functions (MW). CONDITIONS: none; each theorem bears its own.
-/
import Derived.Test.YtdnbmcnckojglaaGreatMV
import Derived.Test.YtdnbmcnckojglaaGreatA
set_option linter.unusedVariables false
set_option linter.unusedSimpArgs false
namespace Go.Hb
open Go Go.Proofs Go.RowKit
set_option maxRecDepth 100000
set_option maxHeartbeats 800000
attribute [-simp] aC aL aOper aThen aInBlock aIf aPlan aAppend aLen aIndexAddr aSlice aCells aBounds lBr aq initT aev aAppendOwn aAppendNil aAppendNew aAppendRef LV.cells LV.cellsOk getElem?_pos getElem?_neg
theorem next_fold (c : Cor) : ∀ (l : List Int) (a : Int × Nat), (l ≠ [] ∨ a.2 ≠ 0) → (∀ t ∈ l, c.now < (at' c.threads t).on ∧ (at' c.threads t).on ≤ 1073741824) → (a.2 ≠ 0 → c.now < a.1 ∧ a.1 ≤ 1073741824) → c.now < (l.foldl (nextStep c) a).1 ∧ (l.foldl (nextStep c) a).1 ≤ 1073741824
 | [], a, h, _, ha => ha (h.resolve_left (by simp))
 | t :: l, a, _, hl, ha => by
  rw [List.foldl_cons]
  refine next_fold c l _ (.inr (by simp [nextStep])) (fun u hu => hl u (by simp [hu])) fun _ => ?_
  have ht := hl t (by simp)
  unfold nextStep
  simp only
  split
  ·exact ht
  ·exact ha (by omega)
theorem next_in {p : Prog} {c : Cor} (h : Inv p (-1) noD c) (hl : (nextC c).2 = true) : c.now < (nextC c).1 ∧ (nextC c).1 ≤ 1073741824 := by
 unfold nextC at hl ⊢
 simp only [decide_eq_true_eq] at hl
 refine next_fold c _ _ (.inl fun e => by rw [e] at hl; simp at hl) (fun t ht => ?_) (fun h => absurd rfl h)
 have hm := inC_mem ht
 exact (h.one t.toNat (by omega) (by omega)).sleep hm.2.2
theorem play_succ {p : Prog} {c : Cor} {l : List Int} {k : Nat} (h : k < l.length) : playC p c (l.take (k + 1)) = ((pickC p (playC p c (l.take k)).1 (nth l k)).1, (playC p c (l.take k)).2 ++ (pickC p (playC p c (l.take k)).1 (nth l k)).2) := by
 unfold playC
 rw [take_succ_nth h, List.foldl_append]; rfl
theorem pick_bd {p : Prog} (hp : MayP p) {c : Cor} (h : Inv p (-1) noD c) (k : Int) : (pickC p c k).2.length ≤ 1000 := by
 unfold pickC
 split
 ·split <;> simp
 ·unfold stepC
  split
  ·simp
  ·split
   ·simp
   ·exact (stepMeet_p hp h (by omega) (by omega) (by omega)).2.1
set_option maxHeartbeats 8000000 in
theorem play_p {p : Prog} (hp : MayP p) {c : Cor} (h : Inv p (-1) noD c) {l : List Int} {most : Int} (hl : l.length ≤ 9223372036854775807) (hI : ∀ x ∈ l, I64 x) (hm0 : 0 ≤ most) (hm1 : most ≤ 200) :
  PureC Tryz.prog 29 [.agg [row p.funcs, .int .i64 p.mutexes, row p.conds, row p.semas, row p.chans, row p.choices, .int .i64 p.threads], .agg [.int .i64 c.now, row c.threads, row c.owners, row c.counts, row c.bufs, row c.lockq, row c.waitq, row c.downq, row c.sendq, row c.recvq], row l, .int .i64 most] (.tup [.agg (playC p c (l.take most.toNat)).1.lv, row (playC p c (l.take most.toNat)).2]) := by
 refine .of fun s v => ?_
 have hn2 := hp.threads.2
 have hlen : (l.take most.toNat).length ≤ 200 := by rw [List.length_take]; omega
 refine aCalls_go Tryz.func29 rfl (by decide) Tryz.ntmps29 (by simp) false ?_
 have hres : Tryz.f29.results = #[.cell 8 30, .tmp 9] := rfl
 repeat' (first|(with_reducible first|refine bt ?_|refine bf ?_|(first|refine bc ?_ ?_|refine gc ?_ ?_|refine pc ?_ ?_)<;>intro _|(refine dr P29 mixed ?_ ?_ ?_;kernel_rfl;kernel_rfl)|refine And.intro ?_ ?_)|simp -implicitDefEqProofs(maxSteps:=2000000)(disch:=first|assumption|omega)[*, ])
 refine aW_for (β := LV × List Nat × List AObj) false (l.take most.toNat).length (fun k q => GroE v q.2.1 (playC p c ((l.take most.toNat).take k)).2 q.1 ∧ (playC p c ((l.take most.toNat).take k)).2.length ≤ 1000 * k) (fun k q => [(10, q.1), (11, .int .i64 k), (21, .any), (22, .any), (23, .any), (24, .any), (25, .any), (26, .any), (27, .any), (28, .any), (29, .any), (32, .any), (33, .any), (12, .any), (34, .any), (35, .any), (36, .any), (38, .any), (39, .any), (37, .any), (40, .any), (41, .any), (13, .any), (14, .any), (42, .any), (44, .any), (45, .any), (46, .any), (47, .any), (48, .any), (49, .any), (43, .any), (50, .any), (51, .any), (15, .any), (16, .any), (52, .any), (54, .any), (55, .any), (56, .any), (57, .any), (58, .any), (59, .any), (60, .any), (61, .any), (62, .any), (63, .any), (64, .any), (65, .any), (66, .any), (53, .any), (67, .any), (68, .any), (69, .any), (70, .any), (17, .any), (18, .any), (19, .any), (20, .any), (71, .any), (72, .any), (73, .any), (74, .any), (30, .any), (31, .any)]) (fun k q => s ++ (.cells [row p.funcs, .int .i64 p.mutexes, row p.conds, row p.semas, row p.chans, row p.choices, .int .i64 p.threads] :: .cells (playC p c ((l.take most.toNat).take k)).1.lv :: .cells Z10 :: q.2.2)) (fun _ q => q.2.1) ?_ ?_
 ·exact ⟨(.nils, v, []), ⟨GroE.nil _, by simp [playC]⟩, by (refine Fits.of ?_ (Off.refl _ _); simp [upd_apply, upds_cons]), rfl, rfl⟩
 rintro k ⟨xs, v1, J⟩ hk ⟨hG, hb⟩
 simp only at hG hb
 have hgc := hG.gro.cells
 have hinv := playC_inv hp h ((l.take most.toNat).take k)
 by_cases hlt : k < (l.take most.toNat).length
 ·have hsucc := play_succ (p := p) (c := c) hlt
  have hlt2 : k < l.length ∧ (k : Int) < most := by rw [List.length_take] at hlt; omega
  have hnk : nth (l.take most.toNat) k = nth l k := by
   unfold nth; rw [List.getD_eq_getElem?_getD, List.getD_eq_getElem?_getD, List.getElem?_take_of_lt (by omega)]
  rw [hnk] at hsucc
  have hpb := pick_bd hp hinv (nth l k)
  have hb2 : (playC p c ((l.take most.toNat).take (k + 1))).2.length ≤ 1000 * (k + 1) := by rw [hsucc]; simp only [List.length_append]; omega
  generalize (playC p c ((l.take most.toNat).take k)).2 = ev at *
  generalize hy : (playC p c ((l.take most.toNat).take k)).1 = y at *
  have hsz := hinv.nthr.2
  have hin := in_p (c := y) (by omega) 0
  have hilen := inK_len y 0 y.threads.length
  have hinm := fun t => @inC_mem y 0 t
  have hxk := ix_in (l := l) (i := (k : Int)) (by omega) (by omega)
  clear hnk
  obtain ⟨hk1, hk2⟩ := hlt2
  have hk1' : (k : Int) < l.length := by omega
  by_cases hz : (inC y 0).length = 0
  ·have hpk : pickC p y (nth l k) = (if (nextC y).2 = true then ((tickC y ((nextC y).1 - y.now)).1, []) else (y, [])) := by unfold pickC; rw [if_pos hz]
   rw [hpk] at hsucc hpb
   have hnx := next_p (c := y) (by omega)
   have hni := next_in hinv
   have hnow := hinv.now
   generalize inC y 0 = l0 at *
   generalize nextC y = nx at *
   obtain ⟨a, is⟩ := nx
   simp only at hni hsucc hnx
   cases is
   ·simp only [Bool.false_eq_true, if_false] at hsucc
    simp only [List.append_nil] at hsucc
    have hG2 : GroE v v1 (playC p c ((l.take most.toNat).take (k + 1))).2 xs := by rw [hsucc]; exact hG
    have hst : (playC p c ((l.take most.toNat).take (k + 1))).1 = y := by rw [hsucc]
    clear hsucc hpk hni hpb hG hy
    generalize hq : playC p c ((l.take most.toNat).take (k + 1)) = q at *
    simp only [Cor.lv, Z10]
    repeat' (first|(with_reducible first|refine bt ?_|refine bf ?_|(first|refine bc ?_ ?_|refine gc ?_ ?_|refine pc ?_ ?_)<;>intro _|(refine dr P29 mixed ?_ ?_ ?_;kernel_rfl;kernel_rfl)|refine And.intro ?_ ?_|refine callC hin (fun v2 hv2 => ?_)|refine callC hnx (fun v3 hv3 => ?_))|simp -implicitDefEqProofs(maxSteps:=2000000)(disch:=first|assumption|omega)[*, ])
    all_goals exact ⟨hlt, (xs, v3, J), ⟨by rw [hq]; exact (GroC.mono hG2 (hv2.trans hv3)), by rw [hq]; exact hb2⟩, by (refine Fits.of ?_ ?_; rotate_left; (repeat (first | with_reducible exact Off.refl _ _ | refine Off.upd rfl ?_ | refine Off.updO rfl ?_ | refine Off.upds rfl ?_)); simp [upd_apply, upds_cons]), by simp [hq, hst, Cor.lv, Z10], rfl⟩
   ·simp only [if_true, List.append_nil] at hsucc
    have hni := hni rfl
    have htk := tick_p hp hinv (n := a - y.now) (by omega) (by omega)
    have hti := tickC_inv hinv (a - y.now)
    generalize tickC y (a - y.now) = tk at *
    obtain ⟨z, w⟩ := tk
    simp only at htk hsucc
    have hG2 : GroE v v1 (playC p c ((l.take most.toNat).take (k + 1))).2 xs := by rw [hsucc]; exact hG
    have hst : (playC p c ((l.take most.toNat).take (k + 1))).1 = z := by rw [hsucc]
    clear hsucc hpk hpb hG hy
    generalize hq : playC p c ((l.take most.toNat).take (k + 1)) = q at *
    simp only [Cor.lv, Z10] at htk ⊢
    repeat' (first|(with_reducible first|refine bt ?_|refine bf ?_|(first|refine bc ?_ ?_|refine gc ?_ ?_|refine pc ?_ ?_)<;>intro _|(refine dr P29 mixed ?_ ?_ ?_;kernel_rfl;kernel_rfl)|refine And.intro ?_ ?_|refine callC hin (fun v2 hv2 => ?_)|refine callC hnx (fun v3 hv3 => ?_)|refine callC htk (fun v4 hv4 => ?_))|simp -implicitDefEqProofs(maxSteps:=2000000)(disch:=first|assumption|omega)[*, ])
    all_goals exact ⟨hlt, (xs, v4, J ++ [.cells [.int .i64 z.now, row z.threads, row z.owners, row z.counts, row z.bufs, row z.lockq, row z.waitq, row z.downq, row z.sendq, row z.recvq]]), ⟨by rw [hq]; exact (GroC.mono hG2 (hv2.trans (hv3.trans hv4))), by rw [hq]; exact hb2⟩, by (refine Fits.of ?_ ?_; rotate_left; (repeat (first | with_reducible exact Off.refl _ _ | refine Off.upd rfl ?_ | refine Off.updO rfl ?_ | refine Off.upds rfl ?_)); simp [upd_apply, upds_cons]), by simp [hq, hst, Cor.lv, Z10], rfl⟩
  ·have hpk : pickC p y (nth l k) = ((stepC p y (at' (inC y 0) (around (nth l k) (inC y 0).length))).1, (stepC p y (at' (inC y 0) (around (nth l k) (inC y 0).length))).2.1) := by unfold pickC; rw [if_neg hz]
   have hz' : ¬ ((inC y 0).length : Int) = 0 := by omega
   have har := around_p (n := nth l k) (m := (inC y 0).length) (hI _ (nth_mem hk1)) (by omega)
   have hai := around_in (n := nth l k) (m := (inC y 0).length) (by omega)
   have hxa := ix_in (l := inC y 0) hai.1 hai.2
   have hmem := hinm _ (at_in hai.1 hai.2)
   have hstp := step_p hp hinv hmem.1 hmem.2.1 hmem.2.2
   have hstc : stepC p y (at' (inC y 0) (around (nth l k) (inC y 0).length)) = ((stepX p y (at' (inC y 0) (around (nth l k) (inC y 0).length))).c, (stepX p y (at' (inC y 0) (around (nth l k) (inC y 0).length))).seen, wokenOf (stepX p y (at' (inC y 0) (around (nth l k) (inC y 0).length))) (at' (inC y 0) (around (nth l k) (inC y 0).length)), 0) := by
    unfold stepC
    rw [if_neg (by omega), if_neg (by omega)]
   rw [hpk, hstc] at hsucc hpb
   simp only at hsucc hpb
   clear hstc hpk hinm
   have hat : at' (inC y 0) (around (nth l k) (inC y 0).length) = nth (inC y 0) (around (nth l k) (inC y 0).length).toNat := rfl
   rw [hat] at hstp hsucc hmem hpb
   clear hat
   generalize around (nth l k) (inC y 0).length = r at *
   generalize inC y 0 = l0 at *
   generalize wokenOf (stepX p y (nth l0 r.toNat)) (nth l0 r.toNat) = w at *
   generalize stepX p y (nth l0 r.toNat) = z at *
   have hst : (playC p c ((l.take most.toNat).take (k + 1))).1 = z.c := by rw [hsucc]
   have hev : (playC p c ((l.take most.toNat).take (k + 1))).2 = ev ++ z.seen := by rw [hsucc]
   clear hsucc hy hinv
   generalize hq : playC p c ((l.take most.toNat).take (k + 1)) = q at *
   simp only [Cor.lv, Z10] at hstp ⊢
   repeat' (first|(with_reducible first|refine bt ?_|refine bf ?_|(first|refine bc ?_ ?_|refine gc ?_ ?_|refine pc ?_ ?_)<;>intro _|(refine dr P29 mixed ?_ ?_ ?_;kernel_rfl;kernel_rfl)|refine And.intro ?_ ?_|refine callC hin (fun v2 hv2 => ?_)|refine callE har ?_|refine callC hstp (fun v3 hv3 => ?_))|simp -implicitDefEqProofs(maxSteps:=2000000)(disch:=first|assumption|omega)[*, ])
   all_goals
    have hG2 : GroE v v3 ev xs := GroC.mono hG (hv2.trans hv3)
    obtain ⟨x4, v4, g4, _, ga⟩ := hG2.appr (P := Tryz.prog) (t := 70) (t2 := 70) (by_ := 24) (by kernel_rfl) (by omega) z.seen (by omega)
    have hc4 := g4.gro.cells
    repeat' (first|(with_reducible first|refine bt ?_|refine bf ?_|(first|refine bc ?_ ?_|refine gc ?_ ?_|refine pc ?_ ?_)<;>intro _|(refine dr P29 mixed ?_ ?_ ?_;kernel_rfl;kernel_rfl)|refine And.intro ?_ ?_)|simp -implicitDefEqProofs(maxSteps:=2000000)(disch:=first|assumption|omega)[*, ])
    exact ⟨hlt, (x4, v4, J ++ [.cells [.int .i64 z.c.now, row z.c.threads, row z.c.owners, row z.c.counts, row z.c.bufs, row z.c.lockq, row z.c.waitq, row z.c.downq, row z.c.sendq, row z.c.recvq]]), ⟨by rw [hq, hev]; exact g4, by rw [hq]; exact hb2⟩, by (refine Fits.of ?_ ?_; rotate_left; (repeat (first | with_reducible exact Off.refl _ _ | refine Off.upd rfl ?_ | refine Off.updO rfl ?_ | refine Off.upds rfl ?_)); simp [upd_apply, upds_cons]), by simp [hq, hst, Cor.lv, Z10], rfl⟩
 ·have hke : k = (l.take most.toNat).length := by omega
  have hlt2 : ¬ ((k : Int) < l.length) ∨ ¬ (k : Int) < most := by rw [List.length_take] at hlt; omega
  subst hke
  rw [List.take_of_length_le (Nat.le_refl _)] at hG hb
  have hfull : (l.take most.toNat).take (l.take most.toNat).length = l.take most.toNat := List.take_of_length_le (Nat.le_refl _)
  generalize hk0 : (l.take most.toNat).length = k0 at *
  have hgw := hG.gro.weak
  have hgu := hG.gro.under
  have hpre := hG.1
  simp only [hfull]
  generalize playC p c (l.take most.toNat) = q at *
  simp only [Cor.lv, Z10]
  by_cases hkl : (k0 : Int) < l.length
  ·have hkm : ¬ (k0 : Int) < most := hlt2.resolve_left (fun h => h hkl)
   repeat' (first|(with_reducible first|refine bt ?_|refine bf ?_|(first|refine bc ?_ ?_|refine gc ?_ ?_|refine pc ?_ ?_)<;>intro _|(refine dr P29 mixed ?_ ?_ ?_;kernel_rfl;kernel_rfl)|refine And.intro ?_ ?_)|simp -implicitDefEqProofs(maxSteps:=2000000)(disch:=first|assumption|omega)[*, ])
   all_goals refine Ends.at (by simp [hgu]) ?_ hpre
   all_goals exact Weak.tup ⟨Weak.refl _, hgw, trivial⟩
  ·repeat' (first|(with_reducible first|refine bt ?_|refine bf ?_|(first|refine bc ?_ ?_|refine gc ?_ ?_|refine pc ?_ ?_)<;>intro _|(refine dr P29 mixed ?_ ?_ ?_;kernel_rfl;kernel_rfl)|refine And.intro ?_ ?_)|simp -implicitDefEqProofs(maxSteps:=2000000)(disch:=first|assumption|omega)[*, ])
   all_goals refine Ends.at (by simp [hgu]) ?_ hpre
   all_goals exact Weak.tup ⟨Weak.refl _, hgw, trivial⟩
end Go.Hb
