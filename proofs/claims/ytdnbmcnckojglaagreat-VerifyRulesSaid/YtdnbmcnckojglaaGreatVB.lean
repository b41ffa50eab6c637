/-
  A layer for reasoning about the program's calls, and contracts of its functions (VB). CONDITIONS: none; each theorem bears its own.
-/
import Derived.Test.YtdnbmcnckojglaaGreatVA
import Derived.Test.YtdnbmcnckojglaaGreatNF
set_option linter.unusedVariables false
set_option linter.unusedSimpArgs false
namespace Go.Hb
open Go Go.Proofs Go.RowKit
set_option maxRecDepth 100000
set_option maxHeartbeats 800000
attribute [-simp] aC aL aOper aThen aInBlock aIf aPlan aAppend aLen aIndexAddr aSlice aCells aBounds lBr aq initT aev aAppendOwn aAppendNil aAppendNew aAppendRef LV.cells LV.cellsOk getElem?_pos getElem?_neg
theorem rec18_p {p : Prog} {c : Cor} (h : ShC p c) {i : Int} (h0 : 0 ≤ i) (h1 : i < c.threads.length) (hon : (nth c.threads i.toNat).state = 8 → 0 ≤ (nth c.threads i.toNat).on ∧ (nth c.threads i.toNat).on < p.choices.length) :
  PureE Tryz.prog 109 [.agg [row p.funcs, .int .i64 p.mutexes, row p.conds, row p.semas, row p.chans, row p.choices, .int .i64 p.threads], .agg [.int .i64 c.now, row c.threads, row c.owners, row c.counts, row c.bufs, row c.lockq, row c.waitq, row c.downq, row c.sendq, row c.recvq], .int .i64 i] (.bool (rec18 p c (nth c.threads i.toNat).state (nth c.threads i.toNat).on i)) := by
 refine .of fun s v => ?_
 have hx0 := ix_in h0 h1
 generalize nth c.threads i.toNat = th at *
 obtain ⟨st, on, fr, sk, co⟩ := th
 simp only at hon ⊢
 clear h0 h1
 have hL := h.b.recvq.1
 refine aCalls_go Tryz.func109 rfl (by decide) Tryz.ntmps109 (by simp) false ?_
 have hres : Tryz.f109.results = #[.tmp 6] := rfl
 repeat' (first|(with_reducible first|refine bt ?_|refine bf ?_|(first|refine bc ?_ ?_|refine gc ?_ ?_|refine pc ?_ ?_)<;>intro _)|simp -implicitDefEqProofs(maxSteps:=2000000)(disch:=first|assumption|omega)[*, ])
 refine aW_for (β := Unit) false c.recvq.length (fun k _ => ∀ j, j < k → ((((nth c.recvq j).count i : Nat) : Int) = if (st = 7 ∧ on = j) ∨ (st = 8 ∧ (j : Int) ∈ at' p.choices on) then 1 else 0)) (fun k _ => [(8, .int .i64 k), (15, .any), (16, .any), (17, .any), (18, .any), (19, .any), (9, .any), (22, .any), (23, .any), (24, .any), (25, .any), (26, .any), (27, .any), (28, .any), (29, .any), (30, .any), (31, .any), (32, .any), (33, .any), (34, .any), (35, .any), (36, .any), (37, .any), (38, .any), (39, .any), (40, .any), (41, .any), (42, .any), (43, .any), (44, .any), (45, .any), (46, .any), (47, .any), (48, .any), (49, .any), (50, .any), (51, .any), (6, .any), (20, .any), (21, .any)]) (fun _ _ => s ++ [AObj.cells [row p.funcs, .int .i64 p.mutexes, row p.conds, row p.semas, row p.chans, row p.choices, .int .i64 p.threads], AObj.cells [.int .i64 c.now, row c.threads, row c.owners, row c.counts, row c.bufs, row c.lockq, row c.waitq, row c.downq, row c.sendq, row c.recvq], .cells [.int .i64 st, .int .i64 on, row fr, row sk, .int .i64 co]]) (fun _ _ => v) ?_ ?_
 ·exact ⟨(), by simp, by (refine Fits.of ?_ (Off.refl _ _); simp [upd_apply, upds_cons]), by simp, rfl⟩
 rintro k _ hk hI
 by_cases hlt : k < c.recvq.length
 ·have hx := ix_in (l := c.recvq) (i := (k : Int)) (by omega) (by omega)
  rw [Int.toNat_natCast] at hx
  have hlb := h.b.recvq.2 _ (nth_mem hlt)
  have hct := count18_p (l := nth c.recvq k) (x := i) (by omega)
  have hcb : (nth c.recvq k).count i ≤ 1000 := Nat.le_trans List.count_le_length hlb
  have hbad : (((nth c.recvq k).count i : Nat) : Int) ≠ (if (st = 7 ∧ on = k) ∨ (st = 8 ∧ (k : Int) ∈ at' p.choices on) then 1 else 0) → rec18 p c st on i = false := fun hn => all_at hlt (by simp [hn])
  have hgood : (((nth c.recvq k).count i : Nat) : Int) = (if (st = 7 ∧ on = k) ∨ (st = 8 ∧ (k : Int) ∈ at' p.choices on) then 1 else 0) → ∀ j, j < k + 1 → ((((nth c.recvq j).count i : Nat) : Int) = if (st = 7 ∧ on = j) ∨ (st = 8 ∧ (j : Int) ∈ at' p.choices on) then 1 else 0) := fun hy j hj => by
   by_cases e : j = k
   ·subst e; exact hy
   ·exact hI j (by omega)
  clear hI
  generalize (nth c.recvq k).count i = n at *
  have hlt' : (k : Int) < c.recvq.length := by omega
  by_cases e8 : st = 8
  ·subst e8
   have hon' := hon rfl
   have hx2 := ix_in (l := p.choices) (i := on) hon'.1 hon'.2
   have hcl := h.choices.2 _ (nth_mem (l := p.choices) (k := on.toNat) (by omega))
   have hid := idx_p (l := nth p.choices on.toNat) (x := (k : Int)) (by omega)
   have hip := idx_pos (nth p.choices on.toNat) (k : Int)
   have hat : at' p.choices on = nth p.choices on.toNat := rfl
   rw [hat] at hbad hgood
   generalize idx (nth p.choices on.toNat) (k : Int) = j at *
   by_cases hm : (k : Int) ∈ nth p.choices on.toNat
   ·have hj := hip.2 hm
    rw [if_pos (.inr ⟨rfl, hm⟩)] at hbad hgood
    clear hip hon hm
    by_cases hn : n = 1
    ·have hg := hgood (by omega)
     subst hn
     clear hbad hgood
     repeat' (first|(with_reducible first|refine bt ?_|refine bf ?_|(first|refine bc ?_ ?_|refine gc ?_ ?_|refine pc ?_ ?_)<;>intro _|refine And.intro ?_ ?_|refine callE hct ?_|refine callE hid ?_)|simp -implicitDefEqProofs(maxSteps:=2000000)(disch:=first|assumption|omega)[*, ])
     all_goals exact ⟨hlt, (), hg, by (refine Fits.of ?_ ?_; rotate_left; (repeat (first | with_reducible exact Off.refl _ _ | refine Off.upd rfl ?_ | refine Off.updO rfl ?_ | refine Off.upds rfl ?_)); simp [upd_apply, upds_cons]), by simp, rfl⟩
    ·rw [hbad (by omega)]
     have hn2 : ¬ (n : Int) = 1 := by omega
     clear hbad hgood
     repeat' (first|(with_reducible first|refine bt ?_|refine bf ?_|(first|refine bc ?_ ?_|refine gc ?_ ?_|refine pc ?_ ?_)<;>intro _|refine And.intro ?_ ?_|refine callE hct ?_|refine callE hid ?_)|simp -implicitDefEqProofs(maxSteps:=2000000)(disch:=first|assumption|omega)[*, ])
     all_goals exact EndsE.eqat rfl (by simp)
   ·have hj : ¬ 0 ≤ j := fun hj => hm (hip.1 hj)
    rw [if_neg (by rintro (⟨a, _⟩ | ⟨_, b⟩); exact absurd a (by omega); exact hm b)] at hbad hgood
    clear hip hon hm
    by_cases hn : n = 0
    ·have hg := hgood (by omega)
     subst hn
     clear hbad hgood
     repeat' (first|(with_reducible first|refine bt ?_|refine bf ?_|(first|refine bc ?_ ?_|refine gc ?_ ?_|refine pc ?_ ?_)<;>intro _|refine And.intro ?_ ?_|refine callE hct ?_|refine callE hid ?_)|simp -implicitDefEqProofs(maxSteps:=2000000)(disch:=first|assumption|omega)[*, ])
     all_goals exact ⟨hlt, (), hg, by (refine Fits.of ?_ ?_; rotate_left; (repeat (first | with_reducible exact Off.refl _ _ | refine Off.upd rfl ?_ | refine Off.updO rfl ?_ | refine Off.upds rfl ?_)); simp [upd_apply, upds_cons]), by simp, rfl⟩
    ·rw [hbad (by omega)]
     have hn2 : ¬ (n : Int) = 0 := by omega
     clear hbad hgood
     repeat' (first|(with_reducible first|refine bt ?_|refine bf ?_|(first|refine bc ?_ ?_|refine gc ?_ ?_|refine pc ?_ ?_)<;>intro _|refine And.intro ?_ ?_|refine callE hct ?_|refine callE hid ?_)|simp -implicitDefEqProofs(maxSteps:=2000000)(disch:=first|assumption|omega)[*, ])
     all_goals exact EndsE.eqat rfl (by simp)
  ·clear hon
   by_cases hw : st = 7 ∧ on = k
   ·obtain ⟨rfl, rfl⟩ := hw
    rw [if_pos (.inl ⟨rfl, rfl⟩)] at hbad hgood
    by_cases hn : n = 1
    ·have hg := hgood (by omega)
     subst hn
     clear hbad hgood
     repeat' (first|(with_reducible first|refine bt ?_|refine bf ?_|(first|refine bc ?_ ?_|refine gc ?_ ?_|refine pc ?_ ?_)<;>intro _|refine And.intro ?_ ?_|refine callE hct ?_)|simp -implicitDefEqProofs(maxSteps:=2000000)(disch:=first|assumption|omega)[*, ])
     all_goals exact ⟨hlt, (), hg, by (refine Fits.of ?_ ?_; rotate_left; (repeat (first | with_reducible exact Off.refl _ _ | refine Off.upd rfl ?_ | refine Off.updO rfl ?_ | refine Off.upds rfl ?_)); simp [upd_apply, upds_cons]), by simp, rfl⟩
    ·rw [hbad (by omega)]
     have hn2 : ¬ (n : Int) = 1 := by omega
     clear hbad hgood
     repeat' (first|(with_reducible first|refine bt ?_|refine bf ?_|(first|refine bc ?_ ?_|refine gc ?_ ?_|refine pc ?_ ?_)<;>intro _|refine And.intro ?_ ?_|refine callE hct ?_)|simp -implicitDefEqProofs(maxSteps:=2000000)(disch:=first|assumption|omega)[*, ])
     all_goals exact EndsE.eqat rfl (by simp)
   ·rw [if_neg (by rintro (a | ⟨b, _⟩); exact hw a; exact e8 b)] at hbad hgood
    have hw2 : st = 7 → ¬ on = k := fun a b => hw ⟨a, b⟩
    clear hw
    by_cases hn : n = 0
    ·have hg := hgood (by omega)
     subst hn
     clear hbad hgood
     by_cases e7 : st = 7
     ·have eo := hw2 e7
      subst e7
      clear hw2
      repeat' (first|(with_reducible first|refine bt ?_|refine bf ?_|(first|refine bc ?_ ?_|refine gc ?_ ?_|refine pc ?_ ?_)<;>intro _|refine And.intro ?_ ?_|refine callE hct ?_)|simp -implicitDefEqProofs(maxSteps:=2000000)(disch:=first|assumption|omega)[*, ])
      all_goals exact ⟨hlt, (), hg, by (refine Fits.of ?_ ?_; rotate_left; (repeat (first | with_reducible exact Off.refl _ _ | refine Off.upd rfl ?_ | refine Off.updO rfl ?_ | refine Off.upds rfl ?_)); simp [upd_apply, upds_cons]), by simp, rfl⟩
     ·clear hw2
      repeat' (first|(with_reducible first|refine bt ?_|refine bf ?_|(first|refine bc ?_ ?_|refine gc ?_ ?_|refine pc ?_ ?_)<;>intro _|refine And.intro ?_ ?_|refine callE hct ?_)|simp -implicitDefEqProofs(maxSteps:=2000000)(disch:=first|assumption|omega)[*, ])
      all_goals exact ⟨hlt, (), hg, by (refine Fits.of ?_ ?_; rotate_left; (repeat (first | with_reducible exact Off.refl _ _ | refine Off.upd rfl ?_ | refine Off.updO rfl ?_ | refine Off.upds rfl ?_)); simp [upd_apply, upds_cons]), by simp, rfl⟩
    ·rw [hbad (by omega)]
     have hn2 : ¬ (n : Int) = 0 := by omega
     clear hbad hgood
     by_cases e7 : st = 7
     ·have eo := hw2 e7
      subst e7
      clear hw2
      repeat' (first|(with_reducible first|refine bt ?_|refine bf ?_|(first|refine bc ?_ ?_|refine gc ?_ ?_|refine pc ?_ ?_)<;>intro _|refine And.intro ?_ ?_|refine callE hct ?_)|simp -implicitDefEqProofs(maxSteps:=2000000)(disch:=first|assumption|omega)[*, ])
      all_goals exact EndsE.eqat rfl (by simp)
     ·clear hw2
      repeat' (first|(with_reducible first|refine bt ?_|refine bf ?_|(first|refine bc ?_ ?_|refine gc ?_ ?_|refine pc ?_ ?_)<;>intro _|refine And.intro ?_ ?_|refine callE hct ?_)|simp -implicitDefEqProofs(maxSteps:=2000000)(disch:=first|assumption|omega)[*, ])
      all_goals exact EndsE.eqat rfl (by simp)
 ·have : k = c.recvq.length := by omega
  subst this
  have hv : rec18 p c st on i = true := all_all fun j hj => by simpa using hI j hj
  rw [hv]
  clear hI
  repeat' (first|(with_reducible first|refine bt ?_|refine bf ?_|(first|refine bc ?_ ?_|refine gc ?_ ?_|refine pc ?_ ?_)<;>intro _)|simp -implicitDefEqProofs(maxSteps:=2000000)(disch:=first|assumption|omega)[*, ])
  all_goals exact EndsE.eqat rfl (by simp)
theorem stands18_p {p : Prog} {c : Cor} (h : ShC p c) {i : Int} (h0 : 0 ≤ i) (h1 : i < c.threads.length) : PureC Tryz.prog 77 [.agg [row p.funcs, .int .i64 p.mutexes, row p.conds, row p.semas, row p.chans, row p.choices, .int .i64 p.threads], .agg [.int .i64 c.now, row c.threads, row c.owners, row c.counts, row c.bufs, row c.lockq, row c.waitq, row c.downq, row c.sendq, row c.recvq], .int .i64 i] (.bool (stands18 p c (nth c.threads i.toNat).state (nth c.threads i.toNat).on i)) := by
 refine .of fun s v => ?_
 have hx0 := ix_in h0 h1
 have hL := h.b.sendq.1
 have hon := on18_p (p := p) h0 h1
 unfold stands18
 have hre0 := rec18_p h h0 h1
 generalize nth c.threads i.toNat = th at *
 obtain ⟨st, on, fr, sk, co⟩ := th
 simp only at hon hre0 ⊢
 clear h0 h1
 have hon8 : on18 p st on = true → st = 8 → 0 ≤ on ∧ on < p.choices.length := fun a b => by
  rw [b] at a; simpa [on18] using a
 generalize on18 p st on = b at *
 cases b
 ·refine aCalls_go Tryz.func77 rfl (by decide) Tryz.ntmps77 (by simp) false ?_
  have hres : Tryz.f77.results = #[.tmp 6] := rfl
  repeat' (first|(with_reducible first|refine bt ?_|refine bf ?_|(first|refine bc ?_ ?_|refine gc ?_ ?_|refine pc ?_ ?_)<;>intro _|refine And.intro ?_ ?_|refine callE hon ?_)|simp -implicitDefEqProofs(maxSteps:=2000000)(disch:=first|assumption|omega)[*, ])
  all_goals exact Ends.eqat (by simp) (by simp) (List.prefix_refl _)
 have hre := hre0 (hon8 rfl)
 clear hre0
 have k3 := kind18_p h.b.lockq (st := st) (on := on) (t := i) (r := 3) (co := co) (fr := fr) (sk := sk)
 have k4 := kind18_p h.b.waitq (st := st) (on := on) (t := i) (r := 4) (co := co) (fr := fr) (sk := sk)
 have k5 := kind18_p h.b.downq (st := st) (on := on) (t := i) (r := 5) (co := co) (fr := fr) (sk := sk)
 have hrw := h.rows 6
 rw [show rowsC c 6 = c.sendq.map evens by rfl] at hrw
 have k6 := kind18_p hrw (st := st) (on := on) (t := i) (r := 6) (co := co) (fr := fr) (sk := sk)
 clear hon8 hrw
 generalize rec18 p c st on i = b5 at *
 generalize kind18 c.lockq st on i 3 = b1 at *
 generalize kind18 c.waitq st on i 4 = b2 at *
 generalize kind18 c.downq st on i 5 = b3 at *
 generalize kind18 (c.sendq.map evens) st on i 6 = b4 at *
 refine aCalls_go Tryz.func77 rfl (by decide) Tryz.ntmps77 (by simp) false ?_
 have hres : Tryz.f77.results = #[.tmp 6] := rfl
 repeat' (first|(with_reducible first|refine bt ?_|refine bf ?_|(first|refine bc ?_ ?_|refine gc ?_ ?_|refine pc ?_ ?_)<;>intro _|refine And.intro ?_ ?_|refine callE hon ?_)|simp -implicitDefEqProofs(maxSteps:=2000000)(disch:=first|assumption|omega)[*, ])
 refine aW_for (β := LV × List Nat) false c.sendq.length (fun k q => GroE v q.2 ((c.sendq.map evens).take k) q.1) (fun k q => [(9, q.1), (10, .int .i64 k), (26, .any), (27, .any), (28, .any), (29, .any), (30, .any), (33, .any), (34, .any), (35, .any), (36, .any), (37, .any), (38, .any), (31, .any), (32, .any)]) (fun _ _ => s ++ [AObj.cells [row p.funcs, .int .i64 p.mutexes, row p.conds, row p.semas, row p.chans, row p.choices, .int .i64 p.threads], AObj.cells [.int .i64 c.now, row c.threads, row c.owners, row c.counts, row c.bufs, row c.lockq, row c.waitq, row c.downq, row c.sendq, row c.recvq], .cells [.int .i64 st, .int .i64 on, row fr, row sk, .int .i64 co]]) (fun _ q => q.2) ?_ ?_
 ·exact ⟨(.nils, v), GroE.nil _, by (refine Fits.of ?_ (Off.refl _ _); simp [upd_apply, upds_cons]), by simp, rfl⟩
 rintro k ⟨x, v1⟩ hk hG
 simp only at hG
 by_cases hlt : k < c.sendq.length
 ·have hse := senders10_p (c := c) (ch := (k : Int)) (by omega) (by omega) (h.even k hlt) (by have := h.b.sendq.2 _ (nth_mem hlt); simpa using (by omega : (nth c.sendq k).length ≤ 1000000))
  rw [Int.toNat_natCast] at hse
  have hsk : nth (c.sendq.map evens) k = evens (nth c.sendq k) := by rw [nth_eq (by simpa using hlt), nth_eq hlt]; simp
  have hss : (c.sendq.map evens).take (k + 1) = (c.sendq.map evens).take k ++ [evens (nth c.sendq k)] := by rw [take_succ_nth (by simpa using hlt), hsk]
  have hlt' : (k : Int) < c.sendq.length := by omega
  clear k3 k4 k5 k6 hre hon
  repeat' (first|(with_reducible first|refine bt ?_|refine bf ?_|(first|refine bc ?_ ?_|refine gc ?_ ?_|refine pc ?_ ?_)<;>intro _|refine callC hse (fun v2 hv2 => ?_))|simp -implicitDefEqProofs(maxSteps:=2000000)(disch:=first|assumption|omega)[*, ])
  have hG2 : GroE v v2 ((c.sendq.map evens).take k) x := GroC.mono hG hv2
  obtain ⟨x2, v3, g2, _, gb⟩ := hG2.push (P := Tryz.prog) (t := 24) (t2 := 24) (sz := 1) (by_ := 24) (by kernel_rfl) rfl (by omega) (evens (nth c.sendq k)) (by simp; omega)
  rw [← hss] at g2
  simp only [enc_list] at gb
  have hc2 := g2.gro.cells
  repeat' (first|(with_reducible first|refine bt ?_|refine bf ?_|(first|refine bc ?_ ?_|refine gc ?_ ?_|refine pc ?_ ?_)<;>intro _)|simp -implicitDefEqProofs(maxSteps:=2000000)(disch:=first|assumption|omega)[*, ])
  exact ⟨hlt, (x2, v3), g2, by (refine Fits.of ?_ ?_; rotate_left; (repeat (first | with_reducible exact Off.refl _ _ | refine Off.upd rfl ?_ | refine Off.updO rfl ?_ | refine Off.upds rfl ?_)); simp [upd_apply, upds_cons]), by simp, rfl⟩
 ·have hke : k = c.sendq.length := by omega
  subst hke
  have hfull : (c.sendq.map evens).take c.sendq.length = c.sendq.map evens := List.take_of_length_le (by simp)
  rw [hfull] at hG
  have hgw := hG.gro.weak
  have hgu := hG.gro.under
  have hgc := hG.gro.cells
  repeat' (first|(with_reducible first|refine bt ?_|refine bf ?_|(first|refine bc ?_ ?_|refine gc ?_ ?_|refine pc ?_ ?_)<;>intro _|refine And.intro ?_ ?_|refine callE k3 ?_|refine callE k4 ?_|refine callE k5 ?_|refine callWE2 k6 (by simp [hgw]) ?_|refine callE hre ?_)|simp -implicitDefEqProofs(maxSteps:=2000000)(disch:=first|assumption|omega)[*, ])
  all_goals exact Ends.eqat (by simp [*]) (by simp) hG.1
end Go.Hb
