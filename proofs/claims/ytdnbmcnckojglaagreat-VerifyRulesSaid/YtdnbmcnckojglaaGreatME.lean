/-
  A layer for reasoning about the program's calls, and contracts of its functions (ME). CONDITIONS: none; each theorem bears its own.
-/
import Derived.Test.YtdnbmcnckojglaaGreatTy
import Derived.Test.YtdnbmcnckojglaaGreatL8
set_option linter.unusedVariables false
set_option linter.unusedSimpArgs false
namespace Go.Hb
open Go Go.Proofs Go.RowKit
set_option maxRecDepth 100000
set_option maxHeartbeats 800000
attribute [-simp] aC aL aOper aThen aInBlock aIf aPlan aAppend aLen aIndexAddr aSlice aCells aBounds lBr aq initT aev aAppendOwn aAppendNil aAppendNew aAppendRef LV.cells LV.cellsOk getElem?_pos getElem?_neg

theorem ints_g {l : List Int} (hb : l.length ≤ 10000000) : FreshE Tryz.prog 95 [row l] l := fun s v => by
 refine aCalls_go Tryz.func95 rfl (by decide) Tryz.ntmps95 (by simp) false ?_
 have hres : Tryz.f95.results = #[.tmp 2] := rfl
 obtain ⟨x1, v2, g1, _, ga⟩ := (GroE.nil v (α := Int)).appr (P := Tryz.prog) (t := 23) (t2 := 23) (by_ := 8) (by kernel_rfl) (by omega) l (by simp; omega)
 simp only [List.nil_append] at g1
 repeat' (first|(with_reducible first|refine bt ?_|refine bf ?_|(first|refine bc ?_ ?_|refine gc ?_ ?_|refine pc ?_ ?_)<;>intro _)|simp -implicitDefEqProofs(maxSteps:=2000000)(disch:=first|assumption|omega)[*, ])
theorem ints_o {l : List Int} (hb : l.length ≤ 10000000) {s : List AObj} {v : List Nat} : aCalls Tryz.prog 95 [row l] s v (RowsR 1 l.length (fun cs v' => cs = rowCs l ∧ v = v') s) := by
 refine aCalls_go Tryz.func95 rfl (by decide) Tryz.ntmps95 (by simp) true ?_
 have hres : Tryz.f95.results = #[.tmp 2] := rfl
 obtain ⟨x1, J1, ha1, hJ1⟩ := own_nil (P := Tryz.prog) (t := 23) (t2 := 23) (sz := 1) (by_ := 8) (by kernel_rfl) rfl (by omega) (l := l) (by unfold maxLen; omega) (by omega) s
 have hend : RowsR 1 l.length (fun cs v' => cs = rowCs l ∧ v = v') s x1 (s ++ J1) v := by
  refine ⟨J1, 0, rowCs l, rfl, ?_, by omega, ?_, rfl, rfl⟩
  ·rcases hJ1 with ⟨e1, rfl, rfl⟩ | ⟨e1, rfl, rfl⟩
   ·rw [e1]; exact .inl ⟨rfl, rfl, rfl⟩
   ·have hl1 : l.length ≠ 0 := fun e => e1 (List.length_eq_zero_iff.1 e)
    exact .inr ⟨hl1, rowCs_ne (by simp) e1, by simp, by simp, by rw [rowCs_len]; simp⟩
  ·rcases hJ1 with ⟨e1, rfl, rfl⟩ | ⟨e1, rfl, rfl⟩
   ·rw [e1]; simp
   ·simp
 clear hJ1
 repeat' (first|(with_reducible first|refine bt ?_|refine bf ?_|(first|refine bc ?_ ?_|refine gc ?_ ?_|refine pc ?_ ?_)<;>intro _)|simp -implicitDefEqProofs(maxSteps:=2000000)(disch:=first|assumption|omega)[*, ])
theorem lists_o {L : List (List Int)} (hb : L.length ≤ 10000000) (hb2 : ∀ l ∈ L, l.length ≤ 10000000) {s : List AObj} {v : List Nat} : aCalls Tryz.prog 51 [row L] s v (RowsR 1 L.length (fun cs v' => ListsG v v' L cs) s) := by
 refine aCalls_go Tryz.func51 rfl (by decide) Tryz.ntmps51 (by simp) true ?_
 have hres : Tryz.f51.results = #[.tmp 2] := rfl
 repeat' (first|(with_reducible first|refine bt ?_|refine bf ?_|(first|refine bc ?_ ?_|refine gc ?_ ?_|refine pc ?_ ?_)<;>intro _)|simp -implicitDefEqProofs(maxSteps:=2000000)(disch:=first|assumption|omega)[*, ])
 refine aW_for (β := List AObj × Nat × List LV × LV × List Nat) true L.length (fun k p => RowR (s ++ p.1) 1 k p.2.2.1 p.2.2.2.1 (s.length + p.2.1) ∧ p.2.1 ≤ p.1.length ∧ (k ≠ 0 → p.2.1 < p.1.length) ∧ ListsG v p.2.2.2.2 (L.take k) p.2.2.1) (fun k p => [(3, p.2.2.2.1), (4, .int .i64 k), (5, .any), (6, .any), (7, .any), (8, .any), (11, .any), (12, .any), (13, .any), (14, .any), (15, .any), (16, .any), (17, .any), (18, .any), (9, .any), (10, .any)]) (fun _ p => s ++ p.1) (fun _ p => p.2.2.2.2) ?_ ?_
 ·exact ⟨([], 0, [], .nils, v), ⟨.inl ⟨rfl, rfl, rfl⟩, by simp, by simp, ListsG.nil v⟩, by (refine Fits.of ?_ (Off.refl _ _); simp [upd_apply, upds_cons]), by simp, rfl⟩
 rintro k ⟨J, d, xs, x, v1⟩ hk ⟨hR, hd1, hd2, hG⟩
 simp only at hR hd1 hd2 hG
 by_cases hlt : k < L.length
 ·have hx := ix_in (l := L) (i := (k : Int)) (by omega) (by omega)
  have hg := ints_g (hb2 _ (nth_mem hlt))
  have hxc := hR.cells
  repeat' (first|(with_reducible first|refine bt ?_|refine bf ?_|(first|refine bc ?_ ?_|refine gc ?_ ?_|refine pc ?_ ?_)<;>intro _|refine callFE hg (fun y v2 hyc hy => ?_))|simp -implicitDefEqProofs(maxSteps:=2000000)(disch:=first|assumption|omega)[*, ])
  obtain ⟨J2, ha, hR2, hJ2⟩ := lists_step (P := Tryz.prog) (t := 24) (t2 := 24) (by_ := 24) (by kernel_rfl) (by omega) hR y (by omega)
  repeat' (first|(with_reducible first|refine bt ?_|refine bf ?_|(first|refine bc ?_ ?_|refine gc ?_ ?_|refine pc ?_ ?_)<;>intro _)|simp -implicitDefEqProofs(maxSteps:=2000000)(disch:=first|assumption|omega)[*, ])
  exact ⟨hlt, (J2, J.length, xs ++ [y], .ref 1 (s.length + J.length) 0 (k + 1) false, v2), ⟨hR2, Nat.le_of_lt hJ2, fun _ => hJ2, by show ListsG v v2 (L.take (k + 1)) _; rw [take_succ_nth hlt]; exact hG.snoc hy⟩, by (refine Fits.of ?_ ?_; rotate_left; (repeat (first | with_reducible exact Off.refl _ _ | refine Off.upd rfl ?_ | refine Off.updO rfl ?_ | refine Off.upds rfl ?_)); simp [upd_apply, upds_cons]), by simp, rfl⟩
 ·have : k = L.length := by omega
  subst this
  rw [List.take_of_length_le (Nat.le_refl _)] at hG
  have hend : RowsR 1 L.length (fun cs v' => ListsG v v' L cs) s x (s ++ J) v1 := ⟨J, d, xs, rfl, hR, hd1, hd2, hG⟩
  repeat' (first|(with_reducible first|refine bt ?_|refine bf ?_|(first|refine bc ?_ ?_|refine gc ?_ ?_|refine pc ?_ ?_)<;>intro _)|simp -implicitDefEqProofs(maxSteps:=2000000)(disch:=first|assumption|omega)[*, ])
theorem own_o {c : Cor} (h1 : c.owners.length ≤ 10000000) (h2 : c.counts.length ≤ 10000000) (h3 : c.lockq.length ≤ 10000000 ∧ ∀ l ∈ c.lockq, l.length ≤ 10000000) (h4 : c.waitq.length ≤ 10000000 ∧ ∀ l ∈ c.waitq, l.length ≤ 10000000) (h5 : c.downq.length ≤ 10000000 ∧ ∀ l ∈ c.downq, l.length ≤ 10000000)
  {s : List AObj} {v : List Nat} : aCalls Tryz.prog 287 [.agg [.int .i64 c.now, row c.threads, row c.owners, row c.counts, row c.bufs, row c.lockq, row c.waitq, row c.downq, row c.sendq, row c.recvq]] s v (OwnR c s v) := by
 have c1 := fun s v => ints_o h1 (s := s) (v := v)
 have c2 := fun s v => ints_o h2 (s := s) (v := v)
 have c3 := fun s v => lists_o h3.1 h3.2 (s := s) (v := v)
 have c4 := fun s v => lists_o h4.1 h4.2 (s := s) (v := v)
 have c5 := fun s v => lists_o h5.1 h5.2 (s := s) (v := v)
 refine aCalls_go Tryz.func287 rfl (by decide) Tryz.ntmps287 (by simp) true ?_
 have hres : Tryz.f287.results = #[.cell 2 30] := rfl
 repeat' (first|(with_reducible first|refine bt ?_|refine bf ?_|(first|refine bc ?_ ?_|refine gc ?_ ?_|refine pc ?_ ?_)<;>intro _|refine callRows (c1 _ _) (fun x1 J1 d1 s1 v1 q1 r1 e1 f1 g1 => ?_))|simp -implicitDefEqProofs(maxSteps:=2000000)(disch:=first|assumption|omega)[*, ])
 obtain ⟨rfl, rfl⟩ := g1
 repeat' (first|(with_reducible first|refine bt ?_|refine bf ?_|(first|refine bc ?_ ?_|refine gc ?_ ?_|refine pc ?_ ?_)<;>intro _|refine callRows (c2 _ _) (fun x2 J2 d2 s2 v2 q2 r2 e2 f2 g2 => ?_))|simp -implicitDefEqProofs(maxSteps:=2000000)(disch:=first|assumption|omega)[*, ])
 obtain ⟨rfl, rfl⟩ := g2
 repeat' (first|(with_reducible first|refine bt ?_|refine bf ?_|(first|refine bc ?_ ?_|refine gc ?_ ?_|refine pc ?_ ?_)<;>intro _|refine callRows (c3 _ _) (fun x3 J3 d3 s3 v3 q3 r3 e3 f3 g3 => ?_))|simp -implicitDefEqProofs(maxSteps:=2000000)(disch:=first|assumption|omega)[*, ])
 repeat' (first|(with_reducible first|refine bt ?_|refine bf ?_|(first|refine bc ?_ ?_|refine gc ?_ ?_|refine pc ?_ ?_)<;>intro _|refine callRows (c4 _ _) (fun x4 J4 d4 s4 v4 q4 r4 e4 f4 g4 => ?_))|simp -implicitDefEqProofs(maxSteps:=2000000)(disch:=first|assumption|omega)[*, ])
 repeat' (first|(with_reducible first|refine bt ?_|refine bf ?_|(first|refine bc ?_ ?_|refine gc ?_ ?_|refine pc ?_ ?_)<;>intro _|refine callRows (c5 _ _) (fun x5 J5 d5 s5 v5 q5 r5 e5 f5 g5 => ?_))|simp -implicitDefEqProofs(maxSteps:=2000000)(disch:=first|assumption|omega)[*, ])
 clear c1 c2 c3 c4 c5
 repeat' (first|(with_reducible first|refine bt ?_|refine bf ?_|(first|refine bc ?_ ?_|refine gc ?_ ?_|refine pc ?_ ?_)<;>intro _)|simp -implicitDefEqProofs(maxSteps:=2000000)(disch:=first|assumption|omega)[*, ])
 refine ⟨AObj.cells [.int .i64 c.now, row c.threads, x1, x2, row c.bufs, x3, x4, x5, row c.sendq, row c.recvq] :: AObj.cells [.int .i64 c.now, row c.threads, x1, x2, row c.bufs, x3, x4, x5, row c.sendq, row c.recvq] :: (J1 ++ (J2 ++ (J3 ++ (J4 ++ J5)))), x1, x2, x3, x4, x5, s3, s4, s5, 2 + d1, 2 + J1.length + d2, 2 + J1.length + J2.length + d3, 2 + J1.length + J2.length + J3.length + d4, 2 + J1.length + J2.length + J3.length + J4.length + d5, rfl, ⟨rfl, ?_, ?_, ?_, ?_, ?_, g3.mono (g4.pre.trans g5.pre), (g4.back g3.pre).mono g5.pre, g5.back (g3.pre.trans g4.pre), ?_, ?_, ?_, ?_, ?_⟩⟩
 ·exact (rowR_lift (S1 := s ++ (AObj.cells [.int .i64 c.now, row c.threads, x1, x2, row c.bufs, x3, x4, x5, row c.sendq, row c.recvq] :: AObj.cells [.int .i64 c.now, row c.threads, x1, x2, row c.bufs, x3, x4, x5, row c.sendq, row c.recvq] :: [])) (B := J2 ++ (J3 ++ (J4 ++ (J5)))) r1 f1 (by simp)).eq (by simp) (by simp; omega)
 ·exact (rowR_lift (S1 := s ++ (AObj.cells [.int .i64 c.now, row c.threads, x1, x2, row c.bufs, x3, x4, x5, row c.sendq, row c.recvq] :: AObj.cells [.int .i64 c.now, row c.threads, x1, x2, row c.bufs, x3, x4, x5, row c.sendq, row c.recvq] :: (J1))) (B := J3 ++ (J4 ++ (J5))) r2 f2 (by simp)).eq (by simp) (by simp; omega)
 ·exact (rowR_lift (S1 := s ++ (AObj.cells [.int .i64 c.now, row c.threads, x1, x2, row c.bufs, x3, x4, x5, row c.sendq, row c.recvq] :: AObj.cells [.int .i64 c.now, row c.threads, x1, x2, row c.bufs, x3, x4, x5, row c.sendq, row c.recvq] :: (J1 ++ (J2)))) (B := J4 ++ (J5)) r3 f3 (by simp)).eq (by simp) (by simp; omega)
 ·exact (rowR_lift (S1 := s ++ (AObj.cells [.int .i64 c.now, row c.threads, x1, x2, row c.bufs, x3, x4, x5, row c.sendq, row c.recvq] :: AObj.cells [.int .i64 c.now, row c.threads, x1, x2, row c.bufs, x3, x4, x5, row c.sendq, row c.recvq] :: (J1 ++ (J2 ++ (J3))))) (B := J5) r4 f4 (by simp)).eq (by simp) (by simp; omega)
 ·exact (rowR_lift (S1 := s ++ (AObj.cells [.int .i64 c.now, row c.threads, x1, x2, row c.bufs, x3, x4, x5, row c.sendq, row c.recvq] :: AObj.cells [.int .i64 c.now, row c.threads, x1, x2, row c.bufs, x3, x4, x5, row c.sendq, row c.recvq] :: (J1 ++ (J2 ++ (J3 ++ (J4)))))) (B := ([] : List AObj)) r5 f5 (by simp)).eq (by simp) (by simp; omega)
 ·exact ⟨by omega, fun h => by have := f1 h; omega⟩
 ·exact ⟨by omega, fun h => by have := f2 h; omega⟩
 ·exact ⟨by omega, fun h => by have := f3 h; omega⟩
 ·exact ⟨by omega, fun h => by have := f4 h; omega⟩
 ·omega
end Go.Hb
