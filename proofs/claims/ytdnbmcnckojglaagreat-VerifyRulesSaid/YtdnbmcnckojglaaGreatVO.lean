/-
  A layer for reasoning about the program's calls, and contracts of its functions (VO). CONDITIONS: none; each theorem bears its own.
-/
import Derived.Test.YtdnbmcnckojglaaGreatNJ
import Derived.Test.YtdnbmcnckojglaaGreatD
import Derived.Test.YtdnbmcnckojglaaGreatVC
import Derived.Test.YtdnbmcnckojglaaGreatVH
import Derived.Test.YtdnbmcnckojglaaGreatVI
import Derived.Test.YtdnbmcnckojglaaGreatVK
import Derived.Test.YtdnbmcnckojglaaGreatVM
import Derived.Test.YtdnbmcnckojglaaGreatP
set_option linter.unusedVariables false
set_option linter.unusedSimpArgs false
section
namespace Go.Hb
open Go Go.Proofs Go.RowKit
set_option maxRecDepth 100000
set_option maxHeartbeats 800000
attribute [-simp] aC aL aOper aThen aInBlock aIf aPlan aAppend aLen aIndexAddr aSlice aCells aBounds lBr aq initT aev aAppendOwn aAppendNil aAppendNew aAppendRef LV.cells LV.cellsOk getElem?_pos getElem?_neg
@[simp] def P3 : Nat → Plan
 | 1 => (.qs [0, 1, 3, 4, 5, 6, 7, 8] (.or (.w 2 [8, 6, 4] (.or (.w 9 [] (.w 10 [] (.w 11 [] .nil))) (.w 10 [8, 6, 4] (.w 9 [] (.w 11 [] .nil))))) (.w 10 [8, 6, 4, 0] (.w 2 [8, 6, 4] (.w 9 [] (.w 11 [] .nil))))))
 | 2 => (.qs [0, 1, 2, 3, 4, 5, 6, 7] (.w 8 [0] (.qs [9, 10] .nil)))
 | _ => .nil
theorem turn_p {x : Img} {what at_ n : Int} {k : Nat} (hs : SizeC x.c k) (hk : k ≤ 2) (h1 : I64 what) (h2 : I64 at_) : PureC Tryz.prog 6 [.agg x.lv, .int .i64 what, .int .i64 at_, .int .i64 n] (.agg (turnC x what at_ n).lv) := by
 obtain ⟨ver, ep, p, c⟩ := x
 have h16 := around_in (n := what) (m := 16) (by omega)
 obtain ⟨w, hw⟩ : ∃ w, around what 16 = w := ⟨_, rfl⟩
 rw [hw] at h16
 have hc : (w = 0 ∨ w = 1 ∨ w = 2 ∨ w = 3 ∨ w = 6 ∨ w = 7 ∨ w = 14) ∨ w = 15 ∨ (w = 4 ∨ w = 5) ∨ (w = 13 ∨ w = 8 ∨ w = 9 ∨ w = 10 ∨ w = 11 ∨ w = 12) := by omega
 rcases hc with hc | rfl | hc | hc
 ·exact turnB_p hs hk h1 h2 hw hc
 ·exact turnE_p hs hk h1 h2 hw
 ·exact turnF_p hs hk h1 h2 hw hc
 ·rcases hc with e | e | e | e | e | e
  ·exact turnD_p (j := 0) hs hk h1 h2 hw (by omega)
  ·exact turnD_p (j := 1) hs hk h1 h2 hw (by omega)
  ·exact turnD_p (j := 2) hs hk h1 h2 hw (by omega)
  ·exact turnD_p (j := 3) hs hk h1 h2 hw (by omega)
  ·exact turnD_p (j := 4) hs hk h1 h2 hw (by omega)
  ·exact turnD_p (j := 5) hs hk h1 h2 hw (by omega)
theorem size_big {c : Cor} (h : SizeC c 2) : BigC c := by
 have q : ∀ {L : List (List Int)}, SizeL L 2 → BigR L := fun {L} h => ⟨by have := h.1; omega, fun l hl => by have := h.2 l hl; omega⟩
 exact ⟨⟨by have := h.thr; omega, fun t ht => by have := h.th t ht; exact ⟨by have := this.1; omega, by have := this.2.1; omega, fun f hf => by have := this.2.2 f hf; omega⟩⟩, by have := h.owners; omega, by have := h.counts; omega, q h.bufs, q h.lockq, q h.waitq, q h.downq, q h.sendq, q h.recvq⟩
theorem fits_neg {p : Prog} {c : Cor} : fitsC p c = decide ((firstC p c).1 < 0) := by
 unfold fitsC firstC
 split
 ·rename_i r _
  rw [decide_eq_decide]
  simp only
  omega
 ·rfl
theorem may_good {g : Prog} (hp : MayP g) (hm : mayP g = true) : PureE Tryz.prog 31 [.agg [row g.funcs, .int .i64 g.mutexes, row g.conds, row g.semas, row g.chans, row g.choices, .int .i64 g.threads]] (.bool true) := by
 have h := refMay_p (fs := g.funcs) (mu := g.mutexes) (th := g.threads) (co := g.conds) (se := g.semas) (ch := g.chans) (cho := g.choices) (by have := hp.funcs; omega) (by have := hp.conds; omega) (by have := hp.semas; omega) (by have := hp.chans; omega) (by have := hp.choices; omega) (fun l hl => by have := (hp.choices.2 l hl).2.2.1; omega) (by have := hp.mutexes; constructor <;> omega)
 rw [show mayP ⟨g.funcs, g.mutexes, g.conds, g.semas, g.chans, g.choices, g.threads⟩ = true from hm] at h
 exact h
set_option maxHeartbeats 16000000 in
theorem lawRules_p {p : Prog} {l : List Int} {a0 a1 a2 b0 b1 b2 rule : Int} (h : OkProg p) (hl : OkRow I64 l) (ha0 : I64 a0) (ha1 : I64 a1) (hb0 : I64 b0) (hb1 : I64 b1) :
  PureC Tryz.prog 3 [.agg p.lv, row l, .agg [.int .i64 a0, .int .i64 a1, .int .i64 a2], .agg [.int .i64 b0, .int .i64 b1, .int .i64 b2], .int .i64 rule] (.bool true) := by
 have hmk := make17_p h hl (e := 5) (by constructor <;> omega)
 rw [show around 5 1000 = 5 by decide] at hmk
 have hmy := good_may p
 have hp := mayP_iff hmy
 generalize good p = g at *
 have hmay := may_good hp hmy
 have hinv := playC_inv hp (coreNew_inv hp) (l.take 80)
 generalize (playC g (coreNew g) (l.take 80)).1 = c0 at *
 have hs0 := hinv.size hp
 clear hinv hmy
 have ht1 := turn_p (x := ⟨3, 5, g, c0⟩) (n := a2) hs0 (by omega) ha0 ha1
 have hg1 : (turnC ⟨3, 5, g, c0⟩ a0 a1 a2).p = g := rfl
 have hs1 : SizeC (turnC ⟨3, 5, g, c0⟩ a0 a1 a2).c 1 := turn_size hs0 _ _ _
 generalize turnC ⟨3, 5, g, c0⟩ a0 a1 a2 = X at *
 have ht2 := turn_p (x := X) (n := b2) hs1 (by omega) hb0 hb1
 have hg2 : (turnC X b0 b1 b2).p = g := hg1
 have hsy : SizeC (turnC X b0 b1 b2).c 2 := turn_size hs1 _ _ _
 generalize turnC X b0 b1 b2 = Y at *
 obtain ⟨vx, ex, g', cx⟩ := X
 obtain rfl : g = g' := hg1.symm
 obtain ⟨vy, ey, g'', cy⟩ := Y
 obtain rfl : g = g'' := hg2.symm
 have hsx : SizeC cx 2 := hs1.up
 simp only at hsy hsx
 have hlv := lives_p
 have hvn := vname_p rule
 have hn8 := name18_p rule
 generalize nm18 rule = nm at *
 clear hs0 hs1 hg1 hg2
 simp only [Img.lv, Prog.lv, Cor.lv, List.cons_append, List.nil_append] at hmk ht1 ht2 ⊢
 refine .of fun s v => ?_
 refine aCalls_go Tryz.func3 rfl (by decide) Tryz.ntmps3 (by simp) false ?_
 have hres : Tryz.f3.results = #[.tmp 10] := rfl
 apply aWs_key (P := Tryz.prog) (r := none) (N := 130) (own := false) (id := 0) (fun t' s' v' => v <+: v' ∧ s' = s ++ [.cells [row p.funcs, .int .i64 p.mutexes, row p.conds, row p.semas, row p.chans, row p.choices, .int .i64 p.threads], .cells [.int .i64 a0, .int .i64 a1, .int .i64 a2], .cells [.int .i64 b0, .int .i64 b1, .int .i64 b2], .cells [.int .i64 vx, .int .i64 ex, row g.funcs, .int .i64 g.mutexes, row g.conds, row g.semas, row g.chans, row g.choices, .int .i64 g.threads, .int .i64 cx.now, row cx.threads, row cx.owners, row cx.counts, row cx.bufs, row cx.lockq, row cx.waitq, row cx.downq, row cx.sendq, row cx.recvq]] ∧ t' 4 = .int .i64 rule ∧ t' 12 = .imm 19 2 [.int .i64 vx, .int .i64 ex, row g.funcs, .int .i64 g.mutexes, row g.conds, row g.semas, row g.chans, row g.choices, .int .i64 g.threads, .int .i64 cx.now, row cx.threads, row cx.owners, row cx.counts, row cx.bufs, row cx.lockq, row cx.waitq, row cx.downq, row cx.sendq, row cx.recvq, .int .i64 vy, .int .i64 ey, row g.funcs, .int .i64 g.mutexes, row g.conds, row g.semas, row g.chans, row g.choices, .int .i64 g.threads, .int .i64 cy.now, row cy.threads, row cy.owners, row cy.counts, row cy.bufs, row cy.lockq, row cy.waitq, row cy.downq, row cy.sendq, row cy.recvq] .full ∧ t' 13 = .int .i64 0)
 ·intro key
  repeat' (first|(with_reducible first|refine bt ?_|refine bf ?_|(first|refine bc ?_ ?_|refine gc ?_ ?_|refine pc ?_ ?_)<;>intro _|(refine dr P3 mixed ?_ ?_ ?_;kernel_rfl;kernel_rfl)|refine And.intro ?_ ?_|refine callC hmk (fun v1 hv1 => ?_)|refine callC ht1 (fun v2 hv2 => ?_)|refine callC ht2 (fun v3 hv3 => ?_))|simp -implicitDefEqProofs(maxSteps:=2000000)(disch:=first|assumption|omega)[*, ])
  all_goals exact key _ _ _ ⟨hv1.trans (hv2.trans hv3), rfl, by simp [upd_apply], by simp [upd_apply], by simp [upd_apply]⟩
 rintro t0 s0 v3 ⟨hv0, rfl, e4, e12, e13⟩
 clear hmk ht1 ht2
 refine aW_for (β := List AObj × List Nat) false 2 (fun _ q => v <+: q.2) (fun i _ => [(13, .int .i64 i), (46, .any), (47, .any), (50, .any), (51, .any), (52, .any), (53, .any), (54, .any), (14, .any), (55, .any), (56, .any), (57, .any), (10, .any), (58, .any), (59, .any), (60, .any), (61, .any), (62, .any), (15, .any), (63, .any), (64, .any), (65, .any), (66, .any), (67, .any), (16, .any), (17, .any), (68, .any), (69, .any), (73, .any), (74, .any), (75, .any), (76, .any), (72, .any), (77, .any), (78, .any), (18, .any), (19, .any), (80, .any), (81, .any), (82, .any), (83, .any), (79, .any), (84, .any), (85, .any), (20, .any), (21, .any), (86, .any), (87, .any), (88, .any), (89, .any), (90, .any), (91, .any), (92, .any), (93, .any), (70, .any), (71, .any), (95, .any), (96, .any), (97, .any), (94, .any), (98, .any), (99, .any), (22, .any), (23, .any), (101, .any), (102, .any), (103, .any), (100, .any), (104, .any), (105, .any), (24, .any), (25, .any), (106, .any), (107, .any), (108, .any), (109, .any), (110, .any), (111, .any), (112, .any), (113, .any), (114, .any), (115, .any), (116, .any), (117, .any), (118, .any), (119, .any), (120, .any), (121, .any), (48, .any), (49, .any)]) (fun _ q => s ++ (.cells [row p.funcs, .int .i64 p.mutexes, row p.conds, row p.semas, row p.chans, row p.choices, .int .i64 p.threads] :: .cells [.int .i64 a0, .int .i64 a1, .int .i64 a2] :: .cells [.int .i64 b0, .int .i64 b1, .int .i64 b2] :: .cells [.int .i64 vx, .int .i64 ex, row g.funcs, .int .i64 g.mutexes, row g.conds, row g.semas, row g.chans, row g.choices, .int .i64 g.threads, .int .i64 cx.now, row cx.threads, row cx.owners, row cx.counts, row cx.bufs, row cx.lockq, row cx.waitq, row cx.downq, row cx.sendq, row cx.recvq] :: q.1)) (fun _ q => q.2) ?_ ?_
 ·exact ⟨([], v3), hv0, by (refine Fits.of ?_ (Off.refl _ _); simp [upd_apply, upds_cons, *]), by simp, rfl⟩
 rintro k ⟨J, v4⟩ hk hv
 simp only at hv
 by_cases hk0 : k = 0
 ·subst hk0
  have hbg := size_big hsx
  have hsh := shape_p (ver := vx) (e := ex) hp hmay hbg
  by_cases hsk : shapeK ex g cx = true
  rotate_left
  ·rw [show shapeK ex g cx = false by simpa using hsk] at hsh
   repeat' (first|(with_reducible first|refine bt ?_|refine bf ?_|(first|refine bc ?_ ?_|refine gc ?_ ?_|refine pc ?_ ?_)<;>intro _|(refine dr P3 mixed ?_ ?_ ?_;kernel_rfl;kernel_rfl)|refine And.intro ?_ ?_|refine callE hsh ?_|refine callC hlv (fun w1 hw1 => ?_))|simp -implicitDefEqProofs(maxSteps:=2000000)(disch:=first|assumption|omega)[*, ])
   all_goals exact Ends.eqat rfl (by simp) (hv.trans hw1)
  rw [hsk] at hsh
  have hd := shapeK_d hp hsk
  have hru := fun r => rule_p hd.sh r
  have h18 := fun r => rule18_p hd r
  have hfi := first_p hd.sh
  have hf8 := first18_p hd
  have hft := fits_p hd.sh
  rw [fits_neg] at hft
  generalize firstC g cx = fc at *
  clear hd hsk hbg hsx hsy hlv hvn hn8
  repeat' (first|(with_reducible first|refine bt ?_|refine bf ?_|(first|refine bc ?_ ?_|refine gc ?_ ?_|refine pc ?_ ?_)<;>intro _|(refine dr P3 mixed ?_ ?_ ?_;kernel_rfl;kernel_rfl)|refine And.intro ?_ ?_|refine callE hsh ?_)|simp -implicitDefEqProofs(maxSteps:=2000000)(disch:=first|assumption|omega)[*, ])
  clear hsh
  refine aW_for0 (β := List Nat) false 10 (fun _ v' => v <+: v') (fun k v' => [(17, .int .i64 ((k : Int) - 1)), (68, .any), (69, .any), (73, .any), (74, .any), (75, .any), (76, .any), (72, .any), (77, .any), (78, .any), (18, .any), (19, .any), (80, .any), (81, .any), (82, .any), (83, .any), (79, .any), (84, .any), (85, .any), (20, .any), (21, .any), (86, .any), (87, .any), (88, .any), (89, .any), (90, .any), (91, .any), (92, .any), (93, .any), (10, .any), (70, .any), (71, .any)]) (fun _ v' => v') ⟨_, hv, by (refine Fits.of ?_ (Off.refl _ _); simp [upd_apply, upds_cons]), rfl⟩ ?_
  rintro k w1 hk hw1
  by_cases hlt : k < 10
  ·have hr := hru ((k : Int) - 1)
   have h8 := h18 ((k : Int) - 1)
   generalize ruleC g cx ((k : Int) - 1) = rc at *
   obtain ⟨ri, rb⟩ := rc
   simp only at hr h8
   have hle : (k : Int) - 1 ≤ 8 := by omega
   have hadd : (k : Int) - 1 + 1 = ((k + 1 : Nat) : Int) - 1 := by omega
   have hlo : ((k + 1 : Nat) : Int) - 1 ≤ 9 := by omega
   have hlo2 : 0 ≤ ((k + 1 : Nat) : Int) - 1 := by omega
   clear hru h18 hfi hf8 hft
   have hr2 : ((k + 1 : Nat) : Int) - 1 = k := by omega
   generalize ((k + 1 : Nat) : Int) - 1 = r2 at *
   generalize (k : Int) - 1 = r1 at *
   repeat' (first|(with_reducible first|refine bt ?_|refine bf ?_|(first|refine bc ?_ ?_|refine gc ?_ ?_|refine pc ?_ ?_)<;>intro _|(refine dr P3 mixed ?_ ?_ ?_;kernel_rfl;kernel_rfl)|refine And.intro ?_ ?_|refine callC hr (fun w2 hw2 => ?_)|refine callC h8 (fun w3 hw3 => ?_))|simp -implicitDefEqProofs(maxSteps:=2000000)(disch:=first|assumption|omega)[*, ])
   all_goals exact ⟨hlt, w3, hw1.trans (hw2.trans hw3), by (refine Fits.of ?_ ?_; rotate_left; (repeat (first | with_reducible exact Off.refl _ _ | refine Off.upd rfl ?_ | refine Off.updO rfl ?_ | refine Off.upds rfl ?_)); first | (simp [upd_apply, upds_cons]; done) | (simp [upd_apply, upds_cons, *, hr2]; done) | (simp [upd_apply, upds_cons, *, hr2]; omega) | simp [upd_apply, upds_cons]), rfl, rfl⟩
  ·have hke : k = 10 := by omega
   subst hke
   clear hru h18
   obtain ⟨f1, f2⟩ := fc
   simp only at hfi hf8 hft
   repeat' (first|(with_reducible first|refine bt ?_|refine bf ?_|(first|refine bc ?_ ?_|refine gc ?_ ?_|refine pc ?_ ?_)<;>intro _|(refine dr P3 mixed ?_ ?_ ?_;kernel_rfl;kernel_rfl)|refine And.intro ?_ ?_|refine callC hfi (fun w2 hw2 => ?_)|refine callC hf8 (fun w3 hw3 => ?_)|refine callC hft (fun w4 hw4 => ?_))|simp -implicitDefEqProofs(maxSteps:=2000000)(disch:=first|assumption|omega)[*, ])
   all_goals exact ⟨by omega, (J ++ [.cells [row g.funcs, .int .i64 g.mutexes, row g.conds, row g.semas, row g.chans, row g.choices, .int .i64 g.threads], .cells [.int .i64 cx.now, row cx.threads, row cx.owners, row cx.counts, row cx.bufs, row cx.lockq, row cx.waitq, row cx.downq, row cx.sendq, row cx.recvq]], w4), hw1.trans (hw2.trans (hw3.trans hw4)), by (refine Fits.of ?_ ?_; rotate_left; (repeat (first | with_reducible exact Off.refl _ _ | refine Off.upd rfl ?_ | refine Off.updO rfl ?_ | refine Off.upds rfl ?_)); simp [upd_apply, upds_cons]), by simp, rfl⟩
 by_cases hk1 : k = 1
 ·subst hk1
  have hbg := size_big hsy
  have hsh := shape_p (ver := vy) (e := ey) hp hmay hbg
  by_cases hsk : shapeK ey g cy = true
  rotate_left
  ·rw [show shapeK ey g cy = false by simpa using hsk] at hsh
   repeat' (first|(with_reducible first|refine bt ?_|refine bf ?_|(first|refine bc ?_ ?_|refine gc ?_ ?_|refine pc ?_ ?_)<;>intro _|(refine dr P3 mixed ?_ ?_ ?_;kernel_rfl;kernel_rfl)|refine And.intro ?_ ?_|refine callE hsh ?_|refine callC hlv (fun w1 hw1 => ?_))|simp -implicitDefEqProofs(maxSteps:=2000000)(disch:=first|assumption|omega)[*, ])
   all_goals exact Ends.eqat rfl (by simp) (hv.trans hw1)
  rw [hsk] at hsh
  have hd := shapeK_d hp hsk
  have hru := fun r => rule_p hd.sh r
  have h18 := fun r => rule18_p hd r
  have hfi := first_p hd.sh
  have hf8 := first18_p hd
  have hft := fits_p hd.sh
  rw [fits_neg] at hft
  generalize firstC g cy = fc at *
  clear hd hsk hbg hsx hsy hlv hvn hn8
  repeat' (first|(with_reducible first|refine bt ?_|refine bf ?_|(first|refine bc ?_ ?_|refine gc ?_ ?_|refine pc ?_ ?_)<;>intro _|(refine dr P3 mixed ?_ ?_ ?_;kernel_rfl;kernel_rfl)|refine And.intro ?_ ?_|refine callE hsh ?_)|simp -implicitDefEqProofs(maxSteps:=2000000)(disch:=first|assumption|omega)[*, ])
  clear hsh
  refine aW_for0 (β := List Nat) false 10 (fun _ v' => v <+: v') (fun k v' => [(17, .int .i64 ((k : Int) - 1)), (68, .any), (69, .any), (73, .any), (74, .any), (75, .any), (76, .any), (72, .any), (77, .any), (78, .any), (18, .any), (19, .any), (80, .any), (81, .any), (82, .any), (83, .any), (79, .any), (84, .any), (85, .any), (20, .any), (21, .any), (86, .any), (87, .any), (88, .any), (89, .any), (90, .any), (91, .any), (92, .any), (93, .any), (10, .any), (70, .any), (71, .any)]) (fun _ v' => v') ⟨_, hv, by (refine Fits.of ?_ (Off.refl _ _); simp [upd_apply, upds_cons]), rfl⟩ ?_
  rintro k w1 hk hw1
  by_cases hlt : k < 10
  ·have hr := hru ((k : Int) - 1)
   have h8 := h18 ((k : Int) - 1)
   generalize ruleC g cy ((k : Int) - 1) = rc at *
   obtain ⟨ri, rb⟩ := rc
   simp only at hr h8
   have hle : (k : Int) - 1 ≤ 8 := by omega
   have hadd : (k : Int) - 1 + 1 = ((k + 1 : Nat) : Int) - 1 := by omega
   have hlo : ((k + 1 : Nat) : Int) - 1 ≤ 9 := by omega
   have hlo2 : 0 ≤ ((k + 1 : Nat) : Int) - 1 := by omega
   clear hru h18 hfi hf8 hft
   have hr2 : ((k + 1 : Nat) : Int) - 1 = k := by omega
   generalize ((k + 1 : Nat) : Int) - 1 = r2 at *
   generalize (k : Int) - 1 = r1 at *
   repeat' (first|(with_reducible first|refine bt ?_|refine bf ?_|(first|refine bc ?_ ?_|refine gc ?_ ?_|refine pc ?_ ?_)<;>intro _|(refine dr P3 mixed ?_ ?_ ?_;kernel_rfl;kernel_rfl)|refine And.intro ?_ ?_|refine callC hr (fun w2 hw2 => ?_)|refine callC h8 (fun w3 hw3 => ?_))|simp -implicitDefEqProofs(maxSteps:=2000000)(disch:=first|assumption|omega)[*, ])
   all_goals exact ⟨hlt, w3, hw1.trans (hw2.trans hw3), by (refine Fits.of ?_ ?_; rotate_left; (repeat (first | with_reducible exact Off.refl _ _ | refine Off.upd rfl ?_ | refine Off.updO rfl ?_ | refine Off.upds rfl ?_)); first | (simp [upd_apply, upds_cons]; done) | (simp [upd_apply, upds_cons, *, hr2]; done) | (simp [upd_apply, upds_cons, *, hr2]; omega) | simp [upd_apply, upds_cons]), rfl, rfl⟩
  ·have hke : k = 10 := by omega
   subst hke
   clear hru h18
   obtain ⟨f1, f2⟩ := fc
   simp only at hfi hf8 hft
   repeat' (first|(with_reducible first|refine bt ?_|refine bf ?_|(first|refine bc ?_ ?_|refine gc ?_ ?_|refine pc ?_ ?_)<;>intro _|(refine dr P3 mixed ?_ ?_ ?_;kernel_rfl;kernel_rfl)|refine And.intro ?_ ?_|refine callC hfi (fun w2 hw2 => ?_)|refine callC hf8 (fun w3 hw3 => ?_)|refine callC hft (fun w4 hw4 => ?_))|simp -implicitDefEqProofs(maxSteps:=2000000)(disch:=first|assumption|omega)[*, ])
   all_goals exact ⟨by omega, (J ++ [.cells [row g.funcs, .int .i64 g.mutexes, row g.conds, row g.semas, row g.chans, row g.choices, .int .i64 g.threads], .cells [.int .i64 cy.now, row cy.threads, row cy.owners, row cy.counts, row cy.bufs, row cy.lockq, row cy.waitq, row cy.downq, row cy.sendq, row cy.recvq]], w4), hw1.trans (hw2.trans (hw3.trans hw4)), by (refine Fits.of ?_ ?_; rotate_left; (repeat (first | with_reducible exact Off.refl _ _ | refine Off.upd rfl ?_ | refine Off.updO rfl ?_ | refine Off.upds rfl ?_)); simp [upd_apply, upds_cons]), by simp, rfl⟩
 have hk2 : k = 2 := by omega
 subst hk2
 repeat' (first|(with_reducible first|refine bt ?_|refine bf ?_|(first|refine bc ?_ ?_|refine gc ?_ ?_|refine pc ?_ ?_)<;>intro _|(refine dr P3 mixed ?_ ?_ ?_;kernel_rfl;kernel_rfl)|refine And.intro ?_ ?_|refine callE hvn ?_|refine callE hn8 ?_|refine callC hlv (fun w1 hw1 => ?_))|simp -implicitDefEqProofs(maxSteps:=2000000)(disch:=first|assumption|omega)[*, ])
 all_goals exact Ends.eqat rfl (by simp) (hv.trans hw1)
end Go.Hb
end

section
namespace Go.Hb
open Go Go.Proofs Go.RowKit
set_option maxRecDepth 100000
set_option maxHeartbeats 800000
attribute [-simp] aC aL aOper aThen aInBlock aIf aPlan aAppend aLen aIndexAddr aSlice aCells aBounds lBr aq initT aev aAppendOwn aAppendNil aAppendNew aAppendRef LV.cells LV.cellsOk getElem?_pos getElem?_neg
section
variable {H : Type} {enc : TypeId × Value → H} {W : World}
theorem opens_arr3 : Opens enc Tryz.prog W 27 (fun l : List Int => l.length = 3 ∧ ∀ a ∈ l, I64 a) (fun l => l.flatMap fun n => [.int .i64 n]) :=
 opens_array Tryz.underlying27 (n := 3) (m := 1) (by kernel_rfl) (by kernel_rfl) opens_int_
end
theorem three {l : List Int} (h : l.length = 3) : ∃ a b c, l = [a, b, c] := by
 match l, h with
 | [a, b, c], _ => exact ⟨a, b, c, rfl⟩
end Go.Hb
end

