/-
  A layer for reasoning about the program's calls, and contracts of its functions (VA). CONDITIONS: none; each theorem bears its own.
-/
import Derived.Test.YtdnbmcnckojglaaGreatNB
import Derived.Test.YtdnbmcnckojglaaGreatMH
import Derived.Test.YtdnbmcnckojglaaGreatL9
set_option linter.unusedVariables false
set_option linter.unusedSimpArgs false
namespace Go.Hb
open Go Go.Proofs Go.RowKit
set_option maxRecDepth 100000
set_option maxHeartbeats 800000
attribute [-simp] aC aL aOper aThen aInBlock aIf aPlan aAppend aLen aIndexAddr aSlice aCells aBounds lBr aq initT aev aAppendOwn aAppendNil aAppendNew aAppendRef LV.cells LV.cellsOk getElem?_pos getElem?_neg
theorem on18_p {p : Prog} {c : Cor} {i : Int} (h0 : 0 ≤ i) (h1 : i < c.threads.length) : PureE Tryz.prog 76 [.agg [row p.funcs, .int .i64 p.mutexes, row p.conds, row p.semas, row p.chans, row p.choices, .int .i64 p.threads], .agg [.int .i64 c.now, row c.threads, row c.owners, row c.counts, row c.bufs, row c.lockq, row c.waitq, row c.downq, row c.sendq, row c.recvq], .int .i64 i] (.bool (on18 p (nth c.threads i.toNat).state (nth c.threads i.toNat).on)) := by
 refine .of fun s v => ?_
 have hx := ix_in h0 h1
 refine aCalls_go Tryz.func76 rfl (by decide) Tryz.ntmps76 (by simp) false ?_
 have hres : Tryz.f76.results = #[.tmp 6] := rfl
 repeat' (first|(with_reducible first|refine bt ?_|refine bf ?_|(first|refine bc ?_ ?_|refine gc ?_ ?_|refine pc ?_ ?_)<;>intro _|refine And.intro ?_ ?_)|simp -implicitDefEqProofs(maxSteps:=2000000)(disch:=first|assumption|omega)[*, ])
 all_goals exact EndsE.eqat (by simp [on18, *]) (by simp)
theorem count18_p {l : List Int} {x : Int} (hb : l.length ≤ 1000000) : PureE Tryz.prog 186 [row l, .int .i64 x] (.int .i64 (l.count x)) := by
 refine .of fun s v => ?_
 refine aCalls_go Tryz.func186 rfl (by decide) Tryz.ntmps186 (by simp) false ?_
 have hres : Tryz.f186.results = #[.tmp 4] := rfl
 repeat' (first|(with_reducible first|refine bt ?_|refine bf ?_|(first|refine bc ?_ ?_|refine gc ?_ ?_|refine pc ?_ ?_)<;>intro _)|simp -implicitDefEqProofs(maxSteps:=2000000)(disch:=first|assumption|omega)[*, ])
 refine aW_for (β := Unit) false l.length (fun k _ => True) (fun k _ => [(5, .int .i64 ((l.take k).count x)), (6, .int .i64 k), (7, .any), (8, .any), (9, .any), (10, .any), (13, .any), (14, .any), (15, .any), (16, .any), (17, .any), (18, .any), (19, .any), (20, .any), (11, .any), (12, .any)]) (fun _ _ => s) (fun _ _ => v) ?_ ?_
 ·exact ⟨(), trivial, by (refine Fits.of ?_ (Off.refl _ _); simp [upd_apply, upds_cons]), rfl, rfl⟩
 rintro k _ hk -
 have hc : (l.take k).count x ≤ k := Nat.le_trans List.count_le_length (by simp; omega)
 by_cases hlt : k < l.length
 ·have hx := ix_in (l := l) (i := (k : Int)) (by omega) (by omega)
  have hs : (l.take (k + 1)).count x = (l.take k).count x + if nth l k = x then 1 else 0 := by
   rw [take_succ_nth hlt, List.count_append, List.count_singleton]
   simp
  by_cases he : nth l k = x
  ·rw [if_pos he] at hs
   generalize (l.take k).count x = m at *
   repeat' (first|(with_reducible first|refine bt ?_|refine bf ?_|(first|refine bc ?_ ?_|refine gc ?_ ?_|refine pc ?_ ?_)<;>intro _)|simp -implicitDefEqProofs(maxSteps:=2000000)(disch:=first|assumption|omega)[*, ])
   exact ⟨hlt, (), trivial, by (refine Fits.of ?_ ?_; rotate_left; (repeat (first | with_reducible exact Off.refl _ _ | refine Off.upd rfl ?_ | refine Off.updO rfl ?_ | refine Off.upds rfl ?_)); first | (simp [upd_apply, upds_cons]; done) | (simp [upd_apply, upds_cons, *, hs]; done) | (simp [upd_apply, upds_cons, *, hs]; omega) | simp [upd_apply, upds_cons]), rfl, rfl⟩
  ·rw [if_neg he] at hs
   generalize (l.take k).count x = m at *
   repeat' (first|(with_reducible first|refine bt ?_|refine bf ?_|(first|refine bc ?_ ?_|refine gc ?_ ?_|refine pc ?_ ?_)<;>intro _)|simp -implicitDefEqProofs(maxSteps:=2000000)(disch:=first|assumption|omega)[*, ])
   exact ⟨hlt, (), trivial, by (refine Fits.of ?_ ?_; rotate_left; (repeat (first | with_reducible exact Off.refl _ _ | refine Off.upd rfl ?_ | refine Off.updO rfl ?_ | refine Off.upds rfl ?_)); first | (simp [upd_apply, upds_cons]; done) | (simp [upd_apply, upds_cons, *, hs]; done) | (simp [upd_apply, upds_cons, *, hs]; omega) | simp [upd_apply, upds_cons]), rfl, rfl⟩
 ·have : k = l.length := by omega
  subst this
  rw [List.take_of_length_le (Nat.le_refl _)] at *
  repeat' (first|(with_reducible first|refine bt ?_|refine bf ?_|(first|refine bc ?_ ?_|refine gc ?_ ?_|refine pc ?_ ?_)<;>intro _)|simp -implicitDefEqProofs(maxSteps:=2000000)(disch:=first|assumption|omega)[*, ])
  exact EndsE.eq rfl (by simp)
theorem kind18_p {L : List (List Int)} (hb : RowsB L) {st on t r co : Int} {fr : List Frm} {sk : List Int} : PureE Tryz.prog 108 [row L, .agg [.int .i64 st, .int .i64 on, row fr, row sk, .int .i64 co], .int .i64 t, .int .i64 r] (.bool (kind18 L st on t r)) := by
 refine .of fun s v => ?_
 have hL := hb.1
 refine aCalls_go Tryz.func108 rfl (by decide) Tryz.ntmps108 (by simp) false ?_
 have hres : Tryz.f108.results = #[.tmp 8] := rfl
 repeat' (first|(with_reducible first|refine bt ?_|refine bf ?_|(first|refine bc ?_ ?_|refine gc ?_ ?_|refine pc ?_ ?_)<;>intro _)|simp -implicitDefEqProofs(maxSteps:=2000000)(disch:=first|assumption|omega)[*, ])
 refine aW_for (β := Unit) false L.length (fun k _ => ∀ j, j < k → ((((nth L j).count t : Nat) : Int) = if st = r ∧ on = j then 1 else 0)) (fun k _ => [(9, .int .i64 k), (11, .any), (12, .any), (13, .any), (14, .any), (10, .any), (17, .any), (18, .any), (19, .any), (20, .any), (21, .any), (22, .any), (23, .any), (24, .any), (25, .any), (26, .any), (27, .any), (28, .any), (29, .any), (30, .any), (31, .any), (32, .any), (33, .any), (34, .any), (8, .any), (15, .any), (16, .any)]) (fun _ _ => s ++ [.cells [.int .i64 st, .int .i64 on, row fr, row sk, .int .i64 co]]) (fun _ _ => v) ?_ ?_
 ·exact ⟨(), by simp, by (refine Fits.of ?_ (Off.refl _ _); simp [upd_apply, upds_cons]), rfl, rfl⟩
 rintro k _ hk hI
 by_cases hlt : k < L.length
 ·have hx := ix_in (l := L) (i := (k : Int)) (by omega) (by omega)
  rw [Int.toNat_natCast] at hx
  have hlb := hb.2 _ (nth_mem hlt)
  have hct := count18_p (l := nth L k) (x := t) (by omega)
  have hcb : (nth L k).count t ≤ 1000 := Nat.le_trans List.count_le_length hlb
  have hbad : (((nth L k).count t : Nat) : Int) ≠ (if st = r ∧ on = k then 1 else 0) → kind18 L st on t r = false := fun hn => all_at hlt (by simp [hn])
  have hgood : (((nth L k).count t : Nat) : Int) = (if st = r ∧ on = k then 1 else 0) → ∀ j, j < k + 1 → ((((nth L j).count t : Nat) : Int) = if st = r ∧ on = j then 1 else 0) := fun hy j hj => by
   by_cases e : j = k
   ·subst e; exact hy
   ·exact hI j (by omega)
  clear hI
  generalize (nth L k).count t = n at *
  have hlt' : (k : Int) < L.length := by omega
  by_cases hw : st = r ∧ on = k
  ·obtain ⟨rfl, rfl⟩ := hw
   rw [if_pos ⟨rfl, rfl⟩] at hbad hgood
   by_cases hn : (n : Int) = 1
   ·have hg := hgood hn
    have hn2 : n = 1 := by omega
    subst hn2
    clear hbad hgood
    repeat' (first|(with_reducible first|refine bt ?_|refine bf ?_|(first|refine bc ?_ ?_|refine gc ?_ ?_|refine pc ?_ ?_)<;>intro _|refine And.intro ?_ ?_|refine callE hct ?_)|simp -implicitDefEqProofs(maxSteps:=2000000)(disch:=first|assumption|omega)[*, ])
    all_goals exact ⟨hlt, (), hg, by (refine Fits.of ?_ ?_; rotate_left; (repeat (first | with_reducible exact Off.refl _ _ | refine Off.upd rfl ?_ | refine Off.updO rfl ?_ | refine Off.upds rfl ?_)); simp [upd_apply, upds_cons]), rfl, rfl⟩
   ·rw [hbad hn]
    have hn2 : ¬ n = 1 := by omega
    clear hbad hgood
    repeat' (first|(with_reducible first|refine bt ?_|refine bf ?_|(first|refine bc ?_ ?_|refine gc ?_ ?_|refine pc ?_ ?_)<;>intro _|refine And.intro ?_ ?_|refine callE hct ?_)|simp -implicitDefEqProofs(maxSteps:=2000000)(disch:=first|assumption|omega)[*, ])
    all_goals exact EndsE.eqat rfl (by simp)
  ·rw [if_neg hw] at hbad hgood
   have hw2 : ¬ (st = r ∧ on = (k : Int)) := hw
   by_cases hn : (n : Int) = 0
   ·have hg := hgood hn
    have hn2 : n = 0 := by omega
    subst hn2
    clear hbad hgood hw
    by_cases hs : st = r
    ·have ho : ¬ on = k := fun e => hw2 ⟨hs, e⟩
     subst hs
     clear hw2
     repeat' (first|(with_reducible first|refine bt ?_|refine bf ?_|(first|refine bc ?_ ?_|refine gc ?_ ?_|refine pc ?_ ?_)<;>intro _|refine And.intro ?_ ?_|refine callE hct ?_)|simp -implicitDefEqProofs(maxSteps:=2000000)(disch:=first|assumption|omega)[*, ])
     all_goals exact ⟨hlt, (), hg, by (refine Fits.of ?_ ?_; rotate_left; (repeat (first | with_reducible exact Off.refl _ _ | refine Off.upd rfl ?_ | refine Off.updO rfl ?_ | refine Off.upds rfl ?_)); simp [upd_apply, upds_cons]), rfl, rfl⟩
    ·clear hw2
     repeat' (first|(with_reducible first|refine bt ?_|refine bf ?_|(first|refine bc ?_ ?_|refine gc ?_ ?_|refine pc ?_ ?_)<;>intro _|refine And.intro ?_ ?_|refine callE hct ?_)|simp -implicitDefEqProofs(maxSteps:=2000000)(disch:=first|assumption|omega)[*, ])
     all_goals exact ⟨hlt, (), hg, by (refine Fits.of ?_ ?_; rotate_left; (repeat (first | with_reducible exact Off.refl _ _ | refine Off.upd rfl ?_ | refine Off.updO rfl ?_ | refine Off.upds rfl ?_)); simp [upd_apply, upds_cons]), rfl, rfl⟩
   ·rw [hbad hn]
    have hn2 : ¬ n = 0 := by omega
    clear hbad hgood hw
    by_cases hs : st = r
    ·have ho : ¬ on = k := fun e => hw2 ⟨hs, e⟩
     subst hs
     clear hw2
     repeat' (first|(with_reducible first|refine bt ?_|refine bf ?_|(first|refine bc ?_ ?_|refine gc ?_ ?_|refine pc ?_ ?_)<;>intro _|refine And.intro ?_ ?_|refine callE hct ?_)|simp -implicitDefEqProofs(maxSteps:=2000000)(disch:=first|assumption|omega)[*, ])
     all_goals exact EndsE.eqat rfl (by simp)
    ·clear hw2
     repeat' (first|(with_reducible first|refine bt ?_|refine bf ?_|(first|refine bc ?_ ?_|refine gc ?_ ?_|refine pc ?_ ?_)<;>intro _|refine And.intro ?_ ?_|refine callE hct ?_)|simp -implicitDefEqProofs(maxSteps:=2000000)(disch:=first|assumption|omega)[*, ])
     all_goals exact EndsE.eqat rfl (by simp)
 ·have : k = L.length := by omega
  subst this
  have hv : kind18 L st on t r = true := all_all fun j hj => by simpa using hI j hj
  rw [hv]
  clear hI
  repeat' (first|(with_reducible first|refine bt ?_|refine bf ?_|(first|refine bc ?_ ?_|refine gc ?_ ?_|refine pc ?_ ?_)<;>intro _)|simp -implicitDefEqProofs(maxSteps:=2000000)(disch:=first|assumption|omega)[*, ])
  all_goals exact EndsE.eqat rfl (by simp)
theorem senders10_p {c : Cor} {ch : Int} (h0 : 0 ≤ ch) (h1 : ch < c.sendq.length) (he : (nth c.sendq ch.toNat).length % 2 = 0) (hb : (nth c.sendq ch.toNat).length ≤ 1000000) : PureC Tryz.prog 107 [.agg [.int .i64 c.now, row c.threads, row c.owners, row c.counts, row c.bufs, row c.lockq, row c.waitq, row c.downq, row c.sendq, row c.recvq], .int .i64 ch] (row (evens (nth c.sendq ch.toNat))) := by
 refine Fresh.pure (Fresh.of fun s v => ?_)
 have hx := ix_in h0 h1
 have hel := evens_len he
 refine aCalls_go Tryz.func107 rfl (by decide) Tryz.ntmps107 (by simp) false ?_
 have hres : Tryz.f107.results = #[.tmp 4] := rfl
 repeat' (first|(with_reducible first|refine bt ?_|refine bf ?_|(first|refine bc ?_ ?_|refine gc ?_ ?_|refine pc ?_ ?_)<;>intro _)|simp -implicitDefEqProofs(maxSteps:=2000000)(disch:=first|assumption|omega)[*, ])
 generalize hq : nth c.sendq ch.toNat = q at *
 refine aW_for (β := LV × List Nat) false (q.length / 2) (fun k p => GroE v p.2 ((evens q).take k) p.1) (fun k p => [(5, p.1), (6, .int .i64 (2 * k : Nat)), (7, .any), (8, .any), (9, .any), (10, .any), (11, .any), (12, .any), (13, .any), (14, .any), (17, .any), (18, .any), (19, .any), (20, .any), (21, .any), (22, .any), (23, .any), (24, .any), (25, .any), (26, .any), (27, .any), (15, .any), (16, .any)]) (fun _ _ => s ++ [AObj.cells [.int .i64 c.now, row c.threads, row c.owners, row c.counts, row c.bufs, row c.lockq, row c.waitq, row c.downq, row c.sendq, row c.recvq]]) (fun _ p => p.2) ?_ ?_
 ·exact ⟨(.nils, v), GroE.nil _, by (refine Fits.of ?_ (Off.refl _ _); simp [upd_apply, upds_cons]), rfl, rfl⟩
 rintro k ⟨x, v1⟩ hk hG
 simp only at hG
 by_cases hlt : k < q.length / 2
 ·have hx2 := ix_in (l := q) (i := ((2 * k : Nat) : Int)) (by omega) (by omega)
  rw [Int.toNat_natCast] at hx2
  have hes := evens_succ q k (by omega)
  obtain ⟨x2, v2, g2, _, gb⟩ := hG.push (P := Tryz.prog) (t := 23) (t2 := 23) (sz := 1) (by_ := 8) (by kernel_rfl) rfl (by omega) (nth q (2 * k)) (by simp; omega)
  rw [← hes] at g2
  simp only [enc_int] at gb
  have hgc := g2.gro.cells
  have hlt2 : ((2 * k : Nat) : Int) < q.length := by omega
  have hsum : ((2 * k : Nat) : Int) + 2 = ((2 * (k + 1) : Nat) : Int) := by omega
  have hI64 : ((2 * (k + 1) : Nat) : Int) < 9223372036854775807 := by omega
  have hI0 : -9223372036854775808 ≤ ((2 * (k + 1) : Nat) : Int) := by omega
  clear hk hes hel
  generalize hm2 : 2 * (k + 1) = m2 at *
  generalize hm : 2 * k = m at *
  repeat' (first|(with_reducible first|refine bt ?_|refine bf ?_|(first|refine bc ?_ ?_|refine gc ?_ ?_|refine pc ?_ ?_)<;>intro _|refine And.intro ?_ ?_)|simp -implicitDefEqProofs(maxSteps:=2000000)(disch:=first|assumption|omega)[*, ])
  all_goals exact ⟨hlt, (x2, v2), g2, by (refine Fits.of ?_ ?_; rotate_left; (repeat (first | with_reducible exact Off.refl _ _ | refine Off.upd rfl ?_ | refine Off.updO rfl ?_ | refine Off.upds rfl ?_)); first | (simp [upd_apply, upds_cons]; done) | (simp [upd_apply, upds_cons, *, hm2, hsum]; done) | (simp [upd_apply, upds_cons, *, hm2, hsum]; omega) | simp [upd_apply, upds_cons]), rfl, rfl⟩
 ·have hke : k = q.length / 2 := by omega
  subst hke
  have hnl : ¬ ((2 * (q.length / 2) : Nat) : Int) < q.length := by omega
  have hfull : (evens q).take (q.length / 2) = evens q := List.take_of_length_le (by omega)
  rw [hfull] at hG
  have hgu := hG.gro
  clear hel
  generalize 2 * (q.length / 2) = m at *
  repeat' (first|(with_reducible first|refine bt ?_|refine bf ?_|(first|refine bc ?_ ?_|refine gc ?_ ?_|refine pc ?_ ?_)<;>intro _|refine And.intro ?_ ?_)|simp -implicitDefEqProofs(maxSteps:=2000000)(disch:=first|assumption|omega)[*, ])
  all_goals exact ⟨⟨_, rfl⟩, hgu⟩
end Go.Hb
