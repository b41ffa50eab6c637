/-
  A layer for reasoning about the program's calls, and contracts of its functions (MP). CONDITIONS: none; each theorem bears its own.
-/
import Derived.Test.YtdnbmcnckojglaaGreatMO
set_option linter.unusedVariables false
set_option linter.unusedSimpArgs false
namespace Go.Hb
open Go Go.Proofs Go.RowKit
set_option maxRecDepth 100000
set_option maxHeartbeats 800000
attribute [-simp] aC aL aOper aThen aInBlock aIf aPlan aAppend aLen aIndexAddr aSlice aCells aBounds lBr aq initT aev aAppendOwn aAppendNil aAppendNew aAppendRef LV.cells LV.cellsOk getElem?_pos getElem?_neg
theorem mutexA_p {p : Prog} (hp : MayP p) {x : Xs} (h : Run p x) (hs : Small x) {a : Int} (h0 : 0 ≤ a) (h1 : a < p.mutexes) : PureC Tryz.prog 180 [.agg x.lv, .int .i64 6, .int .i64 a] (.agg (mutexX x 6 a).lv) := by
 refine .of fun s v => ?_
 have hl := h.inv.len
 have hb := h.inv.corB hp
 have hn1 := h.inv.nthr.2
 have hn2 := hp.threads.2
 unfold mutexX
 rw [if_pos rfl]
 have hd := lock_p (t := x.t) hb h0 (by rw [hl.owners]; omega) (by rw [hl.lockq]; omega)
 have hth : (lockC x.c a x.t).1.threads = x.c.threads := by unfold lockC; split <;> rfl
 generalize lockC x.c a x.t = r at *
 obtain ⟨c1, is⟩ := r
 simp only at hth
 simp only [Cor.lv] at hd
 cases is
 ·simp only [Bool.false_eq_true, if_false]
  have hr := rest_p (x := { x with c := c1 }) (t := x.t) (st := 3) (on := a) (by show c1.threads.length ≤ _; rw [hth]; omega) h.t.1 (by show x.t < (c1.threads.length : Int); rw [hth]; exact h.t.2)
  generalize restX { x with c := c1 } x.t 3 a = z at *
  simp only [Xs.lv'] at hr ⊢
  clear hth
  refine aCalls_go Tryz.func180 rfl (by decide) Tryz.ntmps180 (by simp) false ?_
  have hres : Tryz.f180.results = #[.cell 6 139] := rfl
  repeat' (first|(with_reducible first|refine bt ?_|refine bf ?_|(first|refine bc ?_ ?_|refine gc ?_ ?_|refine pc ?_ ?_)<;>intro _|(refine dr P180 mixed ?_ ?_ ?_;kernel_rfl;kernel_rfl)|refine andC ?_ ?_|refine callC hd (fun v1 hv1 => ?_)|refine callC hr (fun v2 hv2 => ?_))|simp -implicitDefEqProofs(maxSteps:=2000000)(disch:=first|assumption|omega)[*, ])
  all_goals exact Ends.eqat rfl (by simp) (hv1.trans hv2)
 ·simp only [if_true, Xs.lv']
  refine aCalls_go Tryz.func180 rfl (by decide) Tryz.ntmps180 (by simp) false ?_
  have hres : Tryz.f180.results = #[.cell 6 139] := rfl
  repeat' (first|(with_reducible first|refine bt ?_|refine bf ?_|(first|refine bc ?_ ?_|refine gc ?_ ?_|refine pc ?_ ?_)<;>intro _|(refine dr P180 mixed ?_ ?_ ?_;kernel_rfl;kernel_rfl)|refine andC ?_ ?_|refine callC hd (fun v1 hv1 => ?_))|simp -implicitDefEqProofs(maxSteps:=2000000)(disch:=first|assumption|omega)[*, ])
  all_goals exact Ends.eqat rfl (by simp) hv1
theorem unlock_th (c : Cor) (m t : Int) : (unlockC c m t).1.threads = c.threads := by unfold unlockC; split <;> (try split) <;> rfl
theorem unlock_lt {p : Prog} {c : Cor} (h : Inv p (-1) noD c) (m t : Int) : (unlockC c m t).2.1 < (c.threads.length : Int) := by
 have hn := h.nthr.1
 unfold unlockC
 split
 ·show (-1 : Int) < _; omega
 ·split
  ·rename_i hq
   have := h.mem 3 m.toNat (nth (at' c.lockq m) 0) (by show _ ∈ nth c.lockq m.toNat; exact nth_mem hq)
   exact this.2
  ·show (-1 : Int) < _; omega
theorem mutexB_p {p : Prog} (hp : MayP p) {x : Xs} (h : Run p x) (hs : Small x) {a : Int} (h0 : 0 ≤ a) (h1 : a < p.mutexes) : PureC Tryz.prog 180 [.agg x.lv, .int .i64 7, .int .i64 a] (.agg (mutexX x 7 a).lv) := by
 refine .of fun s v => ?_
 have hl := h.inv.len
 have hb := h.inv.corB hp
 have hn1 := h.inv.nthr.2
 have hn2 := hp.threads.2
 unfold mutexX
 rw [if_neg (by omega), if_pos rfl]
 have hd := unlock_p (t := x.t) hb h0 (by rw [hl.owners]; omega) (by rw [hl.lockq]; omega)
 have hth := unlock_th x.c a x.t
 have hti := unlock_lt h.inv a x.t
 have hE := xsE_mid hp h.inv hs hth
 have hE0 := xsE_of hp h.inv hs
 have hs2 := hs.2
 have hec : (unlockC x.c a x.t).2.2 = 0 ∨ (unlockC x.c a x.t).2.2 = 10 := by unfold unlockC; split <;> (try split) <;> simp
 generalize unlockC x.c a x.t = r at *
 obtain ⟨c1, t, e⟩ := r
 simp only at hth hti hE hec
 simp only [Cor.lv] at hd
 by_cases he : e = 0
 ·subst he
  rw [if_pos rfl]
  have hwk := xwakeF_p (x := { x with c := c1 }) (t := t) (l := []) (by show t < (c1.threads.length : Int); rw [hth]; exact hti) hE (by show x.woken.length + 1 + count2 c1 ≤ 1000; have := hE.2; unfold fu at this; omega) (by simp)
  have hw : Weak .nils (row ([] : List Int)) := Weak.nilrow
  generalize wakeF { x with c := c1 } t [] = z at *
  simp only [Xs.lv'] at hwk ⊢
  clear hth hE hE0
  refine aCalls_go Tryz.func180 rfl (by decide) Tryz.ntmps180 (by simp) false ?_
  have hres : Tryz.f180.results = #[.cell 6 139] := rfl
  repeat' (first|(with_reducible first|refine bt ?_|refine bf ?_|(first|refine bc ?_ ?_|refine gc ?_ ?_|refine pc ?_ ?_)<;>intro _|(refine dr P180 mixed ?_ ?_ ?_;kernel_rfl;kernel_rfl)|refine andC ?_ ?_|refine callC hd (fun v1 hv1 => ?_)|refine callWC hwk (by simp [hw]) (fun v2 hv2 => ?_))|simp -implicitDefEqProofs(maxSteps:=2000000)(disch:=first|assumption|omega)[*, ])
  all_goals exact Ends.eqat rfl (by simp) (hv1.trans hv2)
 ·have he : e = 10 := hec.resolve_left he
  subst he
  rw [if_neg (by omega)]
  have hen := xendF_p (code := 4) h.t.1 h.t.2 hE0
  generalize endF x x.t 4 = z at *
  simp only [Xs.lv'] at hen ⊢
  clear hth hE hE0
  refine aCalls_go Tryz.func180 rfl (by decide) Tryz.ntmps180 (by simp) false ?_
  have hres : Tryz.f180.results = #[.cell 6 139] := rfl
  repeat' (first|(with_reducible first|refine bt ?_|refine bf ?_|(first|refine bc ?_ ?_|refine gc ?_ ?_|refine pc ?_ ?_)<;>intro _|(refine dr P180 mixed ?_ ?_ ?_;kernel_rfl;kernel_rfl)|refine andC ?_ ?_|refine callC hd (fun v1 hv1 => ?_)|refine callC hen (fun v2 hv2 => ?_))|simp -implicitDefEqProofs(maxSteps:=2000000)(disch:=first|assumption|omega)[*, ])
  all_goals exact Ends.eqat rfl (by simp) (hv1.trans hv2)
theorem mutexC_p {p : Prog} (hp : MayP p) {x : Xs} (h : Run p x) (hs : Small x) {a : Int} (h0 : 0 ≤ a) (h1 : a < p.conds.length) : PureC Tryz.prog 180 [.agg x.lv, .int .i64 8, .int .i64 a] (.agg (mutexX x 8 a).lv) := by
 refine .of fun s v => ?_
 have hl := h.inv.len
 have hb := h.inv.corB hp
 have hn1 := h.inv.nthr.2
 have hn2 := hp.threads.2
 obtain e : x.p = p := h.p
 subst e
 have hm := hp.conds.2 _ (at_in h0 h1)
 have hxm := ix_in h0 h1
 unfold mutexX
 rw [if_neg (by omega), if_neg (by omega), if_pos rfl]
 unfold at' at hm ⊢
 have hd := wait_p (t := x.t) hb hm.1 (by rw [hl.owners]; omega) (by rw [hl.lockq]; omega) h0 (by rw [hl.waitq]; exact h1)
 have hth : (waitC x.c a (nth x.p.conds a.toNat) x.t).1.threads = x.c.threads := by unfold waitC; split <;> first | rfl | exact unlock_th _ _ _
 have hti : (waitC x.c a (nth x.p.conds a.toNat) x.t).2.1 < (x.c.threads.length : Int) := by unfold waitC; split <;> exact unlock_lt h.inv _ _
 have hE := xsE_mid hp h.inv hs hth
 have hE0 := xsE_of hp h.inv hs
 have hs2 := hs.2
 have hec : (waitC x.c a (nth x.p.conds a.toNat) x.t).2.2 = 0 ∨ (waitC x.c a (nth x.p.conds a.toNat) x.t).2.2 = 10 := by
  have : ∀ m, (unlockC x.c m x.t).2.2 = 0 ∨ (unlockC x.c m x.t).2.2 = 10 := fun m => by unfold unlockC; split <;> (try split) <;> simp
  unfold waitC; split <;> exact this _
 generalize waitC x.c a (nth x.p.conds a.toNat) x.t = r at *
 obtain ⟨c1, t, e⟩ := r
 simp only at hth hti hE hec
 simp only [Cor.lv] at hd
 by_cases he : e = 0
 ·subst he
  rw [if_pos rfl]
  have hwk := xwakeF_p (x := { x with c := c1 }) (t := t) (l := []) (by show t < (c1.threads.length : Int); rw [hth]; exact hti) hE (by show x.woken.length + 1 + count2 c1 ≤ 1000; have := hE.2; unfold fu at this; omega) (by simp)
  have hw : Weak .nils (row ([] : List Int)) := Weak.nilrow
  have hy : (wakeF { x with c := c1 } t []).t = x.t ∧ (wakeF { x with c := c1 } t []).c.threads.length = x.c.threads.length := by
   by_cases ht : t < 0
   ·rw [wakeF_no _ ht]; exact ⟨rfl, by rw [← hth]⟩
   ·rw [wakeF_nil _ (by omega) (by show t < (c1.threads.length : Int); rw [hth]; exact hti)]
    refine ⟨rfl, ?_⟩
    show (c1.threads.set _ _).length = _
    rw [List.length_set, hth]
  generalize wakeF { x with c := c1 } t [] = y at *
  have hr := rest_p (x := y) (t := x.t) (st := 4) (on := a) (by rw [hy.2]; omega) h.t.1 (by rw [hy.2]; exact h.t.2)
  generalize restX y x.t 4 a = z at *
  simp only [Xs.lv'] at hwk hr ⊢
  clear hth hE hE0 hy
  refine aCalls_go Tryz.func180 rfl (by decide) Tryz.ntmps180 (by simp) false ?_
  have hres : Tryz.f180.results = #[.cell 6 139] := rfl
  repeat' (first|(with_reducible first|refine bt ?_|refine bf ?_|(first|refine bc ?_ ?_|refine gc ?_ ?_|refine pc ?_ ?_)<;>intro _|(refine dr P180 mixed ?_ ?_ ?_;kernel_rfl;kernel_rfl)|refine andC ?_ ?_|refine callC hd (fun v1 hv1 => ?_)|refine callWC hwk (by simp [hw]) (fun v2 hv2 => ?_)|refine callC hr (fun v3 hv3 => ?_))|simp -implicitDefEqProofs(maxSteps:=2000000)(disch:=first|assumption|omega)[*, ])
  all_goals exact Ends.eqat rfl (by simp) (hv1.trans (hv2.trans hv3))
 ·have he : e = 10 := hec.resolve_left he
  subst he
  rw [if_neg (by omega)]
  have hen := xendF_p (code := 4) h.t.1 h.t.2 hE0
  generalize endF x x.t 4 = z at *
  simp only [Xs.lv'] at hen ⊢
  clear hth hE hE0
  refine aCalls_go Tryz.func180 rfl (by decide) Tryz.ntmps180 (by simp) false ?_
  have hres : Tryz.f180.results = #[.cell 6 139] := rfl
  repeat' (first|(with_reducible first|refine bt ?_|refine bf ?_|(first|refine bc ?_ ?_|refine gc ?_ ?_|refine pc ?_ ?_)<;>intro _|(refine dr P180 mixed ?_ ?_ ?_;kernel_rfl;kernel_rfl)|refine andC ?_ ?_|refine callC hd (fun v1 hv1 => ?_)|refine callC hen (fun v2 hv2 => ?_))|simp -implicitDefEqProofs(maxSteps:=2000000)(disch:=first|assumption|omega)[*, ])
  all_goals exact Ends.eqat rfl (by simp) (hv1.trans hv2)
structure SigI (p : Prog) (kind m a : Int) (x y : Xs) : Prop where
 inv : Inv p (-1) noD y.c
 p : y.p = x.p
 seen : y.seen = x.seen
 woken : y.woken.length + (at' y.c.waitq a).length ≤ x.woken.length + (at' x.c.waitq a).length
 sig : sigX kind m a (at' y.c.waitq a).length y = sigX kind m a (at' x.c.waitq a).length x
theorem sigStep_len {p : Prog} (hp : MayP p) {y : Xs} (h : Inv p (-1) noD y.c) {a m : Int} (h0 : 0 ≤ a) (h1 : a < p.conds.length) (hm0 : 0 ≤ m) (hm1 : m < p.mutexes) (hq : (at' y.c.waitq a).length ≠ 0) :
  (at' (sigStep m a y).c.waitq a).length = (at' y.c.waitq a).length - 1 ∧ (sigStep m a y).p = y.p ∧ (sigStep m a y).seen = y.seen ∧ (sigStep m a y).woken.length ≤ y.woken.length + 1 := by
 have hr := sigStep_r hp h h0 h1 hm0 hm1 hq
 have hlt : a.toNat < y.c.waitq.length := by rw [h.len.waitq]; omega
 refine ⟨?_, hr.1.p, ?_⟩
 ·unfold at'
  rw [hr.2, nth_set hlt, List.length_drop]; rfl
 ·have hin := h.mem 4 a.toNat (nth (at' y.c.waitq a) 0) (by show _ ∈ nth y.c.waitq a.toNat; exact nth_mem (by unfold at' at hq; omega))
  unfold sigStep signalC
  rw [if_neg hq]
  simp only
  unfold lockC
  split
  ·simp only [Bool.false_eq_true, if_false]
   exact ⟨rfl, by show y.woken.length ≤ _; omega⟩
  ·simp only [if_true]
   rw [wakeF_nil { y with c := { y.c with waitq := y.c.waitq.set a.toNat ((at' y.c.waitq a).drop 1), owners := y.c.owners.set m.toNat (nth (at' y.c.waitq a) 0) } } hin.1 hin.2]
   refine ⟨rfl, ?_⟩
   show (y.woken ++ [_]).length ≤ _
   simp
theorem mutexD_p {p : Prog} (hp : MayP p) {x : Xs} (h : Run p x) (hs : Small x) {kind a : Int} (hk : kind = 9 ∨ kind = 10) (h0 : 0 ≤ a) (h1 : a < p.conds.length) : PureC Tryz.prog 180 [.agg x.lv, .int .i64 kind, .int .i64 a] (.agg (mutexX x kind a).lv) := by
 refine .of fun s v => ?_
 have hn1 := h.inv.nthr.2
 have hn2 := hp.threads.2
 obtain e : x.p = p := h.p
 subst e
 have hm := hp.conds.2 _ (at_in h0 h1)
 have hxm := ix_in h0 h1
 have k6 : ¬ kind = 6 := by omega
 have k7 : ¬ kind = 7 := by omega
 have k8 : ¬ kind = 8 := by omega
 unfold mutexX
 rw [if_neg k6, if_neg k7, if_neg k8]
 have hw0 : (at' x.c.waitq a).length ≤ 32 := by
  have h4 := h.inv.cnt_le (r := 4) (k := a.toNat) (by simp [nRows]; omega)
  have e4 : rowOf x.c 4 a.toNat = at' x.c.waitq a := rfl
  rw [e4] at h4
  have := hp.threads.2
  omega
 have hs1 := hs.1
 have hs2 := hs.2
 have hI0 : SigI x.p kind (at' x.p.conds a) a x x := ⟨h.inv, rfl, rfl, Nat.le_refl _, rfl⟩
 have hm' : at' x.p.conds a = nth x.p.conds a.toNat := rfl
 generalize hfin : sigX kind (at' x.p.conds a) a (at' x.c.waitq a).length x = fin at *
 rw [hm'] at hm hI0 hfin
 generalize hmm : nth x.p.conds a.toNat = m at *
 simp only [Xs.lv']
 refine aCalls_go Tryz.func180 rfl (by decide) Tryz.ntmps180 (by simp) false ?_
 have hres : Tryz.f180.results = #[.cell 6 139] := rfl
 repeat' (first|(with_reducible first|refine bt ?_|refine bf ?_|(first|refine bc ?_ ?_|refine gc ?_ ?_|refine pc ?_ ?_)<;>intro _|(refine dr P180 mixed ?_ ?_ ?_;kernel_rfl;kernel_rfl))|simp -implicitDefEqProofs(maxSteps:=2000000)(disch:=first|assumption|omega)[*, ])
 refine aW_fall (β := Xs × List AObj × List Nat) false (fun q => SigI x.p kind m a x q.1 ∧ v <+: q.2.2) (fun q => (at' q.1.c.waitq a).length) (fun q => [(97, .any), (98, .any), (99, .any), (100, .any), (101, .any), (102, .any), (103, .any), (104, .any), (106, .any), (107, .any), (108, .any), (109, .any), (110, .any), (105, .any), (111, .any), (112, .any), (113, .any), (16, .any), (17, .any), (18, .any), (114, .any), (115, .any), (116, .any), (117, .any), (118, .any), (119, .any), (120, .any), (121, .any), (122, .any), (123, .any), (124, .any), (125, .any)]) (fun q => s ++ (.cells q.1.lv :: .cells Z20 :: q.2.1)) (fun q => q.2.2) ?_ ?_
 ·exact ⟨(x, [], v), ⟨hI0, List.prefix_refl _⟩, by (refine Fits.of ?_ (Off.refl _ _); simp [upd_apply, upds_cons]), rfl, rfl⟩
 rintro ⟨y, J, v1⟩ ⟨hI, hv1⟩
 simp only at hI hv1
 have hl := hI.inv.len
 have hxw := ix_in (l := y.c.waitq) (i := a) h0 (by rw [hl.waitq]; exact h1)
 have hwq := hI.woken
 have hny := hI.inv.nthr.2
 have hb := hI.inv.corB hp
 have hsig := hI.sig
 have hseen := hI.seen
 by_cases hq : (at' y.c.waitq a).length = 0
 ·rw [hq] at hsig
  have hye : y = fin := hsig.trans hfin
  subst hye
  clear hI hI0 hfin hsig hseen
  unfold at' at hq
  have hq2 : ¬ 0 < (nth y.c.waitq a.toNat).length := by omega
  clear hwq hw0 hq
  simp only [Xs.lv', Z20]
  repeat' (first|(with_reducible first|refine bt ?_|refine bf ?_|(first|refine bc ?_ ?_|refine gc ?_ ?_|refine pc ?_ ?_)<;>intro _|(refine dr P180 mixed ?_ ?_ ?_;kernel_rfl;kernel_rfl))|simp -implicitDefEqProofs(maxSteps:=2000000)(disch:=first|assumption|omega)[*, ])
  all_goals exact Ends.eqat rfl (by simp) hv1
 ·have hst := sigStep_len hp hI.inv h0 h1 hm.1 hm.2 hq
  have hsr := (sigStep_r hp hI.inv h0 h1 hm.1 hm.2 hq).1
  have hI2 : kind ≠ 9 → SigI x.p kind m a x (sigStep m a y) := fun hk9 => by
   refine ⟨hsr.inv, hsr.p.trans hI.p, hst.2.2.1.trans hseen, by rw [hst.1]; have := hst.2.2.2; omega, ?_⟩
   rw [hst.1, ← hsig]
   obtain ⟨j, hj⟩ : ∃ j, (at' y.c.waitq a).length = j + 1 := ⟨(at' y.c.waitq a).length - 1, by omega⟩
   rw [hj]
   show _ = (if (at' y.c.waitq a).length = 0 then y else if kind = 9 then sigStep m a y else sigX kind m a j (sigStep m a y))
   rw [if_neg hq, if_neg hk9]
   rfl
  have hI3 : kind = 9 → sigStep m a y = fin := fun hk9 => by
   rw [← hfin, ← hsig]
   obtain ⟨j, hj⟩ : ∃ j, (at' y.c.waitq a).length = j + 1 := ⟨(at' y.c.waitq a).length - 1, by omega⟩
   rw [hj]
   show _ = (if (at' y.c.waitq a).length = 0 then y else if kind = 9 then sigStep m a y else sigX kind m a j (sigStep m a y))
   rw [if_neg hq, if_pos hk9]
  have hd := signal_p hb hm.1 (by rw [hl.owners]; omega) (by rw [hl.lockq]; omega) h0 (by rw [hl.waitq]; exact h1)
  have hth : (signalC y.c a m).1.threads = y.c.threads := by unfold signalC lockC; split <;> (try rfl); split <;> rfl
  have hti : 0 ≤ (signalC y.c a m).2.1 ∧ (signalC y.c a m).2.1 < (y.c.threads.length : Int) := by
   unfold signalC
   rw [if_neg hq]
   exact hI.inv.mem 4 a.toNat (nth (at' y.c.waitq a) 0) (by show _ ∈ nth y.c.waitq a.toNat; exact nth_mem (by unfold at' at hq; omega))
  have hse : y.seen.length ≤ 300 := by rw [hseen]; exact hs1
  have hE : XsE 1000 { y with c := (signalC y.c a m).1 } ∧ count2 (signalC y.c a m).1 < fu := by
   have h1 := xsE_mid hp (x := { y with woken := [] }) hI.inv ⟨hse, by simp⟩ hth
   have h2 := h1.2
   unfold fu at h2
   exact ⟨⟨h1.1.n, h1.1.thr, h1.1.seen, by show y.woken.length + count2 (signalC y.c a m).1 ≤ 1000; omega⟩, h1.2⟩
  have hlen2 : (at' (sigStep m a y).c.waitq a).length < (at' y.c.waitq a).length := by rw [hst.1]; omega
  have hq2 : 0 < (nth y.c.waitq a.toNat).length := by unfold at' at hq; omega
  have hstep : sigStep m a y = if (signalC y.c a m).2.2 = true then wakeF { y with c := (signalC y.c a m).1 } (signalC y.c a m).2.1 [] else restX { y with c := (signalC y.c a m).1 } (signalC y.c a m).2.1 3 m := rfl
  have hwo : y.woken.length ≤ 332 := by omega
  clear hI0 hfin hsig hsr hst hI hwq hseen hw0 hq
  generalize signalC y.c a m = r at *
  obtain ⟨c1, t, is⟩ := r
  simp only at hth hti hE hstep
  simp only [Cor.lv] at hd
  have hw : Weak .nils (row ([] : List Int)) := Weak.nilrow
  have hwk := xwakeF_p (x := { y with c := c1 }) (t := t) (l := []) (by show t < (c1.threads.length : Int); rw [hth]; exact hti.2) hE (by show y.woken.length + 1 + count2 c1 ≤ 1000; have := hE.2; unfold fu at this; omega) (by simp)
  have hr := rest_p (x := { y with c := c1 }) (t := t) (st := 3) (on := m) (by show c1.threads.length ≤ _; rw [hth]; omega) hti.1 (by show t < (c1.threads.length : Int); rw [hth]; exact hti.2)
  cases is
  ·simp only [Bool.false_eq_true, if_false] at hstep
   rw [← hstep] at hr
   clear hwk hE hth hb hl hstep hxm
   generalize sigStep m a y = z at *
   by_cases hk9 : kind = 9
   ·have hz := hI3 hk9
    subst hz
    subst hk9
    clear hI2 hI3
    simp only [Xs.lv'] at hr ⊢
    simp only [Z20]
    repeat' (first|(with_reducible first|refine bt ?_|refine bf ?_|(first|refine bc ?_ ?_|refine gc ?_ ?_|refine pc ?_ ?_)<;>intro _|(refine dr P180 mixed ?_ ?_ ?_;kernel_rfl;kernel_rfl)|refine andC ?_ ?_|refine callC hd (fun v2 hv2 => ?_)|refine callC hr (fun v3 hv3 => ?_))|simp -implicitDefEqProofs(maxSteps:=2000000)(disch:=first|assumption|omega)[*, ])
    all_goals exact Ends.eqat rfl (by simp) (hv1.trans (hv2.trans hv3))
   ·have hI2 := hI2 hk9
    clear hI3
    simp only [Xs.lv'] at hr ⊢
    repeat' (first|(with_reducible first|refine bt ?_|refine bf ?_|(first|refine bc ?_ ?_|refine gc ?_ ?_|refine pc ?_ ?_)<;>intro _|(refine dr P180 mixed ?_ ?_ ?_;kernel_rfl;kernel_rfl)|refine andC ?_ ?_|refine callC hd (fun v2 hv2 => ?_)|refine callC hr (fun v3 hv3 => ?_))|simp -implicitDefEqProofs(maxSteps:=2000000)(disch:=first|assumption|omega)[*, ])
    all_goals exact ⟨(z, J ++ [.cells [.int .i64 c1.now, row c1.threads, row c1.owners, row c1.counts, row c1.bufs, row c1.lockq, row c1.waitq, row c1.downq, row c1.sendq, row c1.recvq]], v3), hlen2, ⟨hI2, hv1.trans (hv2.trans hv3)⟩, by (refine Fits.of ?_ ?_; rotate_left; (repeat (first | with_reducible exact Off.refl _ _ | refine Off.upd rfl ?_ | refine Off.updO rfl ?_ | refine Off.upds rfl ?_)); simp [upd_apply, upds_cons]), by simp, rfl⟩
  ·simp only [if_true] at hstep
   rw [← hstep] at hwk
   clear hr hE hth hb hl hstep hxm
   generalize sigStep m a y = z at *
   by_cases hk9 : kind = 9
   ·have hz := hI3 hk9
    subst hz
    subst hk9
    clear hI2 hI3
    simp only [Xs.lv'] at hwk ⊢
    simp only [Z20]
    repeat' (first|(with_reducible first|refine bt ?_|refine bf ?_|(first|refine bc ?_ ?_|refine gc ?_ ?_|refine pc ?_ ?_)<;>intro _|(refine dr P180 mixed ?_ ?_ ?_;kernel_rfl;kernel_rfl)|refine andC ?_ ?_|refine callC hd (fun v2 hv2 => ?_)|refine callWC hwk (by simp [hw]) (fun v3 hv3 => ?_))|simp -implicitDefEqProofs(maxSteps:=2000000)(disch:=first|assumption|omega)[*, ])
    all_goals exact Ends.eqat rfl (by simp) (hv1.trans (hv2.trans hv3))
   ·have hI2 := hI2 hk9
    clear hI3
    simp only [Xs.lv'] at hwk ⊢
    repeat' (first|(with_reducible first|refine bt ?_|refine bf ?_|(first|refine bc ?_ ?_|refine gc ?_ ?_|refine pc ?_ ?_)<;>intro _|(refine dr P180 mixed ?_ ?_ ?_;kernel_rfl;kernel_rfl)|refine andC ?_ ?_|refine callC hd (fun v2 hv2 => ?_)|refine callWC hwk (by simp [hw]) (fun v3 hv3 => ?_))|simp -implicitDefEqProofs(maxSteps:=2000000)(disch:=first|assumption|omega)[*, ])
    all_goals exact ⟨(z, J ++ [.cells [.int .i64 c1.now, row c1.threads, row c1.owners, row c1.counts, row c1.bufs, row c1.lockq, row c1.waitq, row c1.downq, row c1.sendq, row c1.recvq]], v3), hlen2, ⟨hI2, hv1.trans (hv2.trans hv3)⟩, by (refine Fits.of ?_ ?_; rotate_left; (repeat (first | with_reducible exact Off.refl _ _ | refine Off.upd rfl ?_ | refine Off.updO rfl ?_ | refine Off.upds rfl ?_)); simp [upd_apply, upds_cons]), by simp, rfl⟩
theorem mutexes_p {p : Prog} (hp : MayP p) {x : Xs} (h : Run p x) (hs : Small x) {q : Req} (hq : ReqI p q) (hk : q.kind = 6 ∨ q.kind = 7 ∨ q.kind = 8 ∨ q.kind = 9 ∨ q.kind = 10) : PureC Tryz.prog 180 [.agg x.lv, .int .i64 q.kind, .int .i64 q.a] (.agg (mutexX x q.kind q.a).lv) := by
 by_cases h6 : q.kind = 6
 ·rw [h6]; have := hq.mutex (.inl h6); exact mutexA_p hp h hs this.1 this.2
 by_cases h7 : q.kind = 7
 ·rw [h7]; have := hq.mutex (.inr h7); exact mutexB_p hp h hs this.1 this.2
 have hc := hq.cond (by omega)
 by_cases h8 : q.kind = 8
 ·rw [h8]; exact mutexC_p hp h hs hc.1 hc.2
 exact mutexD_p hp h hs (by omega) hc.1 hc.2
end Go.Hb
