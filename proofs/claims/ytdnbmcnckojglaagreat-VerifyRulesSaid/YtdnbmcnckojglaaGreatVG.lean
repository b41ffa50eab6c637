/-
  A layer for reasoning about the program's calls, and contracts of its functions (VG). CONDITIONS: none; each theorem bears its own.
-/
import Derived.Test.YtdnbmcnckojglaaGreatVE
set_option linter.unusedVariables false
set_option linter.unusedSimpArgs false
namespace Go.Hb
open Go Go.Proofs Go.RowKit
set_option maxRecDepth 100000
set_option maxHeartbeats 800000
attribute [-simp] aC aL aOper aThen aInBlock aIf aPlan aAppend aLen aIndexAddr aSlice aCells aBounds lBr aq initT aev aAppendOwn aAppendNil aAppendNew aAppendRef LV.cells LV.cellsOk getElem?_pos getElem?_neg
@[simp] def P35 : Nat → Plan
 | 9 => (.qs [0, 1, 2, 3, 4, 5, 6, 7, 8, 9, 10, 11, 12, 13, 14, 15, 16, 17, 18, 19, 20, 21, 22, 23, 24, 25, 26, 27, 28, 29, 30, 31, 32, 33, 34] .nil)
 | _ => .nil
set_option maxHeartbeats 8000000 in
theorem chans_p {p : Prog} {c : Cor} (hp : p.chans.length ≤ 1000000) (ht : c.threads.length ≤ 1000000) (hb : BigR c.bufs) (hs : BigR c.sendq) (hr : BigR c.recvq) : PureE Tryz.prog 35 [.agg [row p.funcs, .int .i64 p.mutexes, row p.conds, row p.semas, row p.chans, row p.choices, .int .i64 p.threads], .agg [.int .i64 c.now, row c.threads, row c.owners, row c.counts, row c.bufs, row c.lockq, row c.waitq, row c.downq, row c.sendq, row c.recvq]] (.bool (chansK p c)) := by
 refine .of fun s v => ?_
 have hrw := rows_p hr (n := (p.chans.length : Int)) (t := (c.threads.length : Int)) (by omega)
 have hb1 := hb.1
 have hs1 := hs.1
 unfold chansK
 generalize rowsK c.recvq (p.chans.length : Int) (c.threads.length : Int) = rq at *
 by_cases e1 : ¬ c.bufs.length = p.chans.length
 ·rw [if_neg (by rintro ⟨a, _⟩; exact e1 a)]
  have e1' : ¬ (c.bufs.length : Int) = (p.chans.length : Int) := by omega
  refine aCalls_go Tryz.func35 rfl (by decide) Tryz.ntmps35 (by simp) false ?_
  have hres : Tryz.f35.results = #[.tmp 4] := rfl
  repeat' (first|(with_reducible first|refine bt ?_|refine bf ?_|(first|refine bc ?_ ?_|refine gc ?_ ?_|refine pc ?_ ?_)<;>intro _|(refine dr P35 mixed ?_ ?_ ?_;kernel_rfl;kernel_rfl)|refine And.intro ?_ ?_|refine callE hrw ?_)|simp -implicitDefEqProofs(maxSteps:=2000000)(disch:=first|assumption|omega)[*, ])
  all_goals exact EndsE.eqat rfl (by simp)
 have e1 : c.bufs.length = p.chans.length := by omega
 by_cases e2 : ¬ c.sendq.length = p.chans.length
 ·rw [if_neg (by rintro ⟨_, a, _⟩; exact e2 a)]
  have e1' : (c.bufs.length : Int) = (p.chans.length : Int) := by omega
  have e2' : ¬ (c.sendq.length : Int) = (p.chans.length : Int) := by omega
  clear e1
  refine aCalls_go Tryz.func35 rfl (by decide) Tryz.ntmps35 (by simp) false ?_
  have hres : Tryz.f35.results = #[.tmp 4] := rfl
  repeat' (first|(with_reducible first|refine bt ?_|refine bf ?_|(first|refine bc ?_ ?_|refine gc ?_ ?_|refine pc ?_ ?_)<;>intro _|(refine dr P35 mixed ?_ ?_ ?_;kernel_rfl;kernel_rfl)|refine And.intro ?_ ?_|refine callE hrw ?_)|simp -implicitDefEqProofs(maxSteps:=2000000)(disch:=first|assumption|omega)[*, ])
  all_goals exact EndsE.eqat rfl (by simp)
 have e2 : c.sendq.length = p.chans.length := by omega
 cases rq
 ·rw [if_neg (by simp)]
  have e1' : (c.bufs.length : Int) = (p.chans.length : Int) := by omega
  have e2' : (c.sendq.length : Int) = (p.chans.length : Int) := by omega
  clear e1 e2
  refine aCalls_go Tryz.func35 rfl (by decide) Tryz.ntmps35 (by simp) false ?_
  have hres : Tryz.f35.results = #[.tmp 4] := rfl
  repeat' (first|(with_reducible first|refine bt ?_|refine bf ?_|(first|refine bc ?_ ?_|refine gc ?_ ?_|refine pc ?_ ?_)<;>intro _|(refine dr P35 mixed ?_ ?_ ?_;kernel_rfl;kernel_rfl)|refine And.intro ?_ ?_|refine callE hrw ?_)|simp -implicitDefEqProofs(maxSteps:=2000000)(disch:=first|assumption|omega)[*, ])
  all_goals exact EndsE.eqat rfl (by simp)
 rw [if_pos ⟨e1, e2, rfl⟩]
 obtain ⟨n, hn⟩ : ∃ n, p.chans.length = n := ⟨_, rfl⟩
 rw [hn] at e1 e2 hrw hp ⊢
 refine aCalls_go Tryz.func35 rfl (by decide) Tryz.ntmps35 (by simp) false ?_
 have hres : Tryz.f35.results = #[.tmp 4] := rfl
 repeat' (first|(with_reducible first|refine bt ?_|refine bf ?_|(first|refine bc ?_ ?_|refine gc ?_ ?_|refine pc ?_ ?_)<;>intro _|(refine dr P35 mixed ?_ ?_ ?_;kernel_rfl;kernel_rfl)|refine And.intro ?_ ?_|refine callE hrw ?_)|simp -implicitDefEqProofs(maxSteps:=2000000)(disch:=first|assumption|omega)[*, ])
 clear hrw
 refine aW_for (β := Unit) false n (fun k _ => ∀ j, j < k → chK p c j = true) (fun k _ => [(7, .int .i64 k), (38, .any), (39, .any), (40, .any), (43, .any), (44, .any), (45, .any), (46, .any), (47, .any), (48, .any), (8, .any), (49, .any), (50, .any), (51, .any), (52, .any), (53, .any), (54, .any), (55, .any), (56, .any), (57, .any), (58, .any), (59, .any), (60, .any), (61, .any), (62, .any), (63, .any), (64, .any), (65, .any), (66, .any), (67, .any), (68, .any), (69, .any), (70, .any), (71, .any), (72, .any), (73, .any), (74, .any), (75, .any), (76, .any), (77, .any), (78, .any), (79, .any), (80, .any), (81, .any), (82, .any), (83, .any), (4, .any), (9, .any), (84, .any), (85, .any), (86, .any), (87, .any), (88, .any), (89, .any), (90, .any), (91, .any), (94, .any), (95, .any), (96, .any), (97, .any), (98, .any), (99, .any), (100, .any), (101, .any), (10, .any), (102, .any), (103, .any), (104, .any), (105, .any), (106, .any), (107, .any), (108, .any), (109, .any), (110, .any), (11, .any), (111, .any), (112, .any), (113, .any), (114, .any), (115, .any), (116, .any), (117, .any), (118, .any), (119, .any), (120, .any), (121, .any), (122, .any), (123, .any), (124, .any), (125, .any), (92, .any), (93, .any), (41, .any), (42, .any)]) (fun _ _ => s ++ [.cells [row p.funcs, .int .i64 p.mutexes, row p.conds, row p.semas, row p.chans, row p.choices, .int .i64 p.threads], .cells [.int .i64 c.now, row c.threads, row c.owners, row c.counts, row c.bufs, row c.lockq, row c.waitq, row c.downq, row c.sendq, row c.recvq]]) (fun _ _ => v) ?_ ?_
 ·exact ⟨(), by simp, by (refine Fits.of ?_ (Off.refl _ _); simp [upd_apply, upds_cons]), by simp, rfl⟩
 rintro k _ hk2 hI
 by_cases hlt : k < n
 ·have x1 := ix_in (l := c.bufs) (i := (k : Int)) (by omega) (by omega)
  have x2 := ix_in (l := c.sendq) (i := (k : Int)) (by omega) (by omega)
  have x3 := ix_in (l := p.chans) (i := (k : Int)) (by omega) (by omega)
  rw [Int.toNat_natCast] at x1 x2 x3
  have hlb := hb.2 _ (nth_mem (l := c.bufs) (k := k) (by omega))
  have hls := hs.2 _ (nth_mem (l := c.sendq) (k := k) (by omega))
  have hbt := between_p (l := nth c.bufs k) (a := -1073741824) (b := 1073741824) (by omega)
  have hbad : chK p c k = false → (List.range n).all (chK p c) = false := fun h => all_at hlt h
  have hgo : chK p c k = true → ∀ j, j < k + 1 → chK p c j = true := fun hy j hj => by
   by_cases e : j = k
   ·subst e; exact hy
   ·exact hI j (by omega)
  clear hI
  have hlt' : (k : Int) < n := by omega
  have hlt1 : k < c.bufs.length := by omega
  have hlt2 : k < c.sendq.length := by omega
  have hlt3 : k < p.chans.length := by omega
  unfold chK at hbad hgo
  have hch : chK0 p c k = (!betC (nth c.bufs k) (-1073741824) 1073741824 || decide (nth p.chans k < (nth c.bufs k).length) || decide (64 < (nth c.sendq k).length) || !decide ((nth c.sendq k).length % 2 = 0)) := rfl
  generalize betC (nth c.bufs k) (-1073741824) 1073741824 = b at *
  clear e1 e2 hn
  cases b
  ·have h0 := hbad (by rw [hch]; rfl)
   have h00 : (List.range n).all (chK p c) = false := h0
   rw [h00]
   clear hbad hgo hch h0 h00
   repeat' (first|(with_reducible first|refine bt ?_|refine bf ?_|(first|refine bc ?_ ?_|refine gc ?_ ?_|refine pc ?_ ?_)<;>intro _|(refine dr P35 mixed ?_ ?_ ?_;kernel_rfl;kernel_rfl)|refine And.intro ?_ ?_|refine callE hbt ?_)|simp -implicitDefEqProofs(maxSteps:=2000000)(disch:=first|assumption|omega)[*, ])
   all_goals exact EndsE.eqat rfl (by simp)
  by_cases g1 : nth p.chans k < (nth c.bufs k).length
  ·have h00 : (List.range n).all (chK p c) = false := hbad (by rw [hch]; simp [g1])
   rw [h00]
   clear hbad hgo hch h00
   repeat' (first|(with_reducible first|refine bt ?_|refine bf ?_|(first|refine bc ?_ ?_|refine gc ?_ ?_|refine pc ?_ ?_)<;>intro _|(refine dr P35 mixed ?_ ?_ ?_;kernel_rfl;kernel_rfl)|refine And.intro ?_ ?_|refine callE hbt ?_)|simp -implicitDefEqProofs(maxSteps:=2000000)(disch:=first|assumption|omega)[*, ])
   all_goals exact EndsE.eqat rfl (by simp)
  by_cases g2 : 64 < (nth c.sendq k).length
  ·have h00 : (List.range n).all (chK p c) = false := hbad (by rw [hch]; simp [g2])
   have g2' : (64 : Int) < (nth c.sendq k).length := by omega
   rw [h00]
   clear hbad hgo hch h00
   repeat' (first|(with_reducible first|refine bt ?_|refine bf ?_|(first|refine bc ?_ ?_|refine gc ?_ ?_|refine pc ?_ ?_)<;>intro _|(refine dr P35 mixed ?_ ?_ ?_;kernel_rfl;kernel_rfl)|refine And.intro ?_ ?_|refine callE hbt ?_)|simp -implicitDefEqProofs(maxSteps:=2000000)(disch:=first|assumption|omega)[*, ])
   all_goals exact EndsE.eqat rfl (by simp)
  have g2' : ¬ (64 : Int) < (nth c.sendq k).length := by omega
  by_cases g3 : ¬ (nth c.sendq k).length % 2 = 0
  ·have h00 : (List.range n).all (chK p c) = false := hbad (by rw [hch]; simp [g3])
   have g3' : ¬ ((nth c.sendq k).length : Int).tmod 2 = 0 := by rw [Int.tmod_eq_emod_of_nonneg (by omega)]; omega
   rw [h00]
   clear hbad hgo hch h00
   repeat' (first|(with_reducible first|refine bt ?_|refine bf ?_|(first|refine bc ?_ ?_|refine gc ?_ ?_|refine pc ?_ ?_)<;>intro _|(refine dr P35 mixed ?_ ?_ ?_;kernel_rfl;kernel_rfl)|refine And.intro ?_ ?_|refine callE hbt ?_)|simp -implicitDefEqProofs(maxSteps:=2000000)(disch:=first|assumption|omega)[*, ])
   all_goals exact EndsE.eqat rfl (by simp)
  have g4 : (nth c.sendq k).length % 2 = 0 := by omega
  have g3' : ((nth c.sendq k).length : Int).tmod 2 = 0 := by rw [Int.tmod_eq_emod_of_nonneg (by omega)]; omega
  have hc0 : ¬ chK0 p c k = true := by rw [hch]; simp [g1, g2, g4]
  rw [if_neg hc0] at hbad hgo
  clear hch hc0 g3
  repeat' (first|(with_reducible first|refine bt ?_|refine bf ?_|(first|refine bc ?_ ?_|refine gc ?_ ?_|refine pc ?_ ?_)<;>intro _|(refine dr P35 mixed ?_ ?_ ?_;kernel_rfl;kernel_rfl)|refine And.intro ?_ ?_|refine callE hbt ?_)|simp -implicitDefEqProofs(maxSteps:=2000000)(disch:=first|assumption|omega)[*, ])
  clear hbt
  refine aWl_for (β := Unit) false ((nth c.sendq k).length / 2) (fun m _ => ∀ j, j < m → sendK c.threads.length (nth c.sendq k) j = true) (fun m _ => [(9, .int .i64 (2 * m : Nat)), (84, .any), (85, .any), (86, .any), (87, .any), (88, .any), (89, .any), (90, .any), (91, .any), (94, .any), (95, .any), (96, .any), (97, .any), (98, .any), (99, .any), (100, .any), (101, .any), (10, .any), (102, .any), (103, .any), (104, .any), (105, .any), (106, .any), (107, .any), (108, .any), (109, .any), (110, .any), (11, .any), (111, .any), (112, .any), (113, .any), (114, .any), (115, .any), (116, .any), (117, .any), (118, .any), (119, .any), (120, .any), (121, .any), (122, .any), (123, .any), (124, .any), (125, .any), (4, .any), (92, .any), (93, .any)]) (fun _ _ => s ++ [.cells [row p.funcs, .int .i64 p.mutexes, row p.conds, row p.semas, row p.chans, row p.choices, .int .i64 p.threads], .cells [.int .i64 c.now, row c.threads, row c.owners, row c.counts, row c.bufs, row c.lockq, row c.waitq, row c.downq, row c.sendq, row c.recvq]]) (fun _ _ => v) ?_ ?_
  ·exact ⟨(), by simp, by (refine Fits.of ?_ (Off.refl _ _); simp [upd_apply, upds_cons]), by simp, rfl⟩
  rintro m _ hm hJ
  by_cases hmt : m < (nth c.sendq k).length / 2
  ·have y1 := ix_in (l := nth c.sendq k) (i := ((2 * m : Nat) : Int)) (by omega) (by omega)
   have y2 := ix_in (l := nth c.sendq k) (i := ((2 * m : Nat) : Int) + 1) (by omega) (by omega)
   rw [Int.toNat_natCast] at y1
   rw [show (((2 * m : Nat) : Int) + 1).toNat = 2 * m + 1 by omega] at y2
   have hkp := keep_p (nth (nth c.sendq k) (2 * m + 1))
   have hbd : sendK c.threads.length (nth c.sendq k) m = false → (List.range n).all (chK p c) = false := fun h => hbad (all_at hmt h)
   have hgd : sendK c.threads.length (nth c.sendq k) m = true → ∀ j, j < m + 1 → sendK c.threads.length (nth c.sendq k) j = true := fun hy j hj => by
    by_cases e : j = m
    ·subst e; exact hy
    ·exact hJ j (by omega)
   have hsd : sendK c.threads.length (nth c.sendq k) m = !(decide (nth (nth c.sendq k) (2 * m) < 0) || decide ((c.threads.length : Int) ≤ nth (nth c.sendq k) (2 * m)) || !decide (nth (nth c.sendq k) (2 * m + 1) = keep (nth (nth c.sendq k) (2 * m + 1)))) := rfl
   have h2m : ((2 * m : Nat) : Int) < (nth c.sendq k).length := by omega
   have h2m1 : ((2 * m : Nat) : Int) + 1 < (nth c.sendq k).length := by omega
   have hs2 : ((2 * m : Nat) : Int) + 2 = ((2 * (m + 1) : Nat) : Int) := by omega
   clear hJ hbad hgo g4 g3' hm hlb
   by_cases q1 : nth (nth c.sendq k) (2 * m) < 0
   ·rw [hbd (by rw [hsd]; simp [q1])]
    clear hbd hgd hsd
    generalize 2 * (m + 1) = m2 at *
    generalize 2 * m = m1 at *
    repeat' (first|(with_reducible first|refine bt ?_|refine bf ?_|(first|refine bc ?_ ?_|refine gc ?_ ?_|refine pc ?_ ?_)<;>intro _|(refine dr P35 mixed ?_ ?_ ?_;kernel_rfl;kernel_rfl)|refine And.intro ?_ ?_|refine callE hkp ?_)|simp -implicitDefEqProofs(maxSteps:=2000000)(disch:=first|assumption|omega)[*, ])
    all_goals exact EndsE.eqat rfl (by simp)
   by_cases q2 : (c.threads.length : Int) ≤ nth (nth c.sendq k) (2 * m)
   ·rw [hbd (by rw [hsd]; simp [q2])]
    clear hbd hgd hsd
    generalize 2 * (m + 1) = m2 at *
    generalize 2 * m = m1 at *
    repeat' (first|(with_reducible first|refine bt ?_|refine bf ?_|(first|refine bc ?_ ?_|refine gc ?_ ?_|refine pc ?_ ?_)<;>intro _|(refine dr P35 mixed ?_ ?_ ?_;kernel_rfl;kernel_rfl)|refine And.intro ?_ ?_|refine callE hkp ?_)|simp -implicitDefEqProofs(maxSteps:=2000000)(disch:=first|assumption|omega)[*, ])
    all_goals exact EndsE.eqat rfl (by simp)
   by_cases q3 : nth (nth c.sendq k) (2 * m + 1) = keep (nth (nth c.sendq k) (2 * m + 1))
   ·have hg := hgd (by rw [hsd]; simp [q1, q2, ← q3])
    rw [← q3] at hkp
    clear hbd hgd hsd q3
    generalize hm2 : 2 * (m + 1) = m2 at *
    generalize 2 * m = m1 at *
    have hsb : (m2 : Int) < 9223372036854775807 := by omega
    repeat' (first|(with_reducible first|refine bt ?_|refine bf ?_|(first|refine bc ?_ ?_|refine gc ?_ ?_|refine pc ?_ ?_)<;>intro _|(refine dr P35 mixed ?_ ?_ ?_;kernel_rfl;kernel_rfl)|refine And.intro ?_ ?_|refine callE hkp ?_)|simp -implicitDefEqProofs(maxSteps:=2000000)(disch:=first|assumption|omega)[*, ])
    all_goals exact ⟨hmt, (), hg, by (refine Fits.of ?_ ?_; rotate_left; (repeat (first | with_reducible exact Off.refl _ _ | refine Off.upd rfl ?_ | refine Off.updO rfl ?_ | refine Off.upds rfl ?_)); first | (simp [upd_apply, upds_cons]; done) | (simp [upd_apply, upds_cons, *, hm2, hs2]; done) | (simp [upd_apply, upds_cons, *, hm2, hs2]; omega) | simp [upd_apply, upds_cons]), by simp, rfl⟩
   ·rw [hbd (by rw [hsd]; simp [q3])]
    clear hbd hgd hsd
    generalize keep (nth (nth c.sendq k) (2 * m + 1)) = ko at *
    generalize 2 * (m + 1) = m2 at *
    generalize 2 * m = m1 at *
    repeat' (first|(with_reducible first|refine bt ?_|refine bf ?_|(first|refine bc ?_ ?_|refine gc ?_ ?_|refine pc ?_ ?_)<;>intro _|(refine dr P35 mixed ?_ ?_ ?_;kernel_rfl;kernel_rfl)|refine And.intro ?_ ?_|refine callE hkp ?_)|simp -implicitDefEqProofs(maxSteps:=2000000)(disch:=first|assumption|omega)[*, ])
    all_goals exact EndsE.eqat rfl (by simp)
  ·have hme : m = (nth c.sendq k).length / 2 := by omega
   subst hme
   have hg := hgo (all_all hJ)
   have hnl : ¬ ((2 * ((nth c.sendq k).length / 2) : Nat) : Int) < (nth c.sendq k).length := by omega
   clear hJ hbad hgo g4 g3' hm hmt hlb
   generalize 2 * ((nth c.sendq k).length / 2) = m1 at *
   repeat' (first|(with_reducible first|refine bt ?_|refine bf ?_|(first|refine bc ?_ ?_|refine gc ?_ ?_|refine pc ?_ ?_)<;>intro _|(refine dr P35 mixed ?_ ?_ ?_;kernel_rfl;kernel_rfl)|refine And.intro ?_ ?_)|simp -implicitDefEqProofs(maxSteps:=2000000)(disch:=first|assumption|omega)[*, ])
   all_goals exact ⟨hlt, (), hg, by (refine Fits.of ?_ ?_; rotate_left; (repeat (first | with_reducible exact Off.refl _ _ | refine Off.upd rfl ?_ | refine Off.updO rfl ?_ | refine Off.upds rfl ?_)); simp [upd_apply, upds_cons]), by simp, rfl⟩
 ·have hke : k = n := by omega
  subst hke
  rw [all_all hI]
  clear hI
  repeat' (first|(with_reducible first|refine bt ?_|refine bf ?_|(first|refine bc ?_ ?_|refine gc ?_ ?_|refine pc ?_ ?_)<;>intro _|(refine dr P35 mixed ?_ ?_ ?_;kernel_rfl;kernel_rfl)|refine And.intro ?_ ?_)|simp -implicitDefEqProofs(maxSteps:=2000000)(disch:=first|assumption|omega)[*, ])
  all_goals exact EndsE.eqat rfl (by simp)
end Go.Hb
