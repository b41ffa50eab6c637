/-
  A layer for reasoning about the program's calls, and contracts of its functions (MH). CONDITIONS: none; each theorem bears its own.
-/
import Derived.Test.YtdnbmcnckojglaaGreatMG
import Derived.Test.YtdnbmcnckojglaaGreatL8
set_option linter.unusedVariables false
set_option linter.unusedSimpArgs false
namespace Go.Hb
open Go Go.Proofs Go.RowKit
set_option maxRecDepth 100000
set_option maxHeartbeats 800000
attribute [-simp] aC aL aOper aThen aInBlock aIf aPlan aAppend aLen aIndexAddr aSlice aCells aBounds lBr aq initT aev aAppendOwn aAppendNil aAppendNew aAppendRef LV.cells LV.cellsOk getElem?_pos getElem?_neg
attribute [local simp] Cor.lv
theorem chown_c {c : Cor} (hb : CorB c) {s : List AObj} {v : List Nat} : aCalls Tryz.prog 289 [.agg [.int .i64 c.now, row c.threads, row c.owners, row c.counts, row c.bufs, row c.lockq, row c.waitq, row c.downq, row c.sendq, row c.recvq]] s v (ChR c s v) := by
 have c1 := fun s v => lists_o hb.bufs.big.1 hb.bufs.big.2 (s := s) (v := v)
 have c2 := fun s v => lists_o hb.sendq.big.1 hb.sendq.big.2 (s := s) (v := v)
 have c3 := fun s v => lists_o hb.recvq.big.1 hb.recvq.big.2 (s := s) (v := v)
 refine aCalls_go Tryz.func289 rfl (by decide) Tryz.ntmps289 (by simp) true ?_
 have hres : Tryz.f289.results = #[.cell 2 30] := rfl
 repeat' (first|(with_reducible first|refine bt ?_|refine bf ?_|(first|refine bc ?_ ?_|refine gc ?_ ?_|refine pc ?_ ?_)<;>intro _|refine callRows (c1 _ _) (fun x1 J1 d1 s1 v1 q1 r1 e1 f1 g1 => ?_))|simp -implicitDefEqProofs(maxSteps:=2000000)(disch:=first|assumption|omega)[*, ])
 repeat' (first|(with_reducible first|refine bt ?_|refine bf ?_|(first|refine bc ?_ ?_|refine gc ?_ ?_|refine pc ?_ ?_)<;>intro _|refine callRows (c2 _ _) (fun x2 J2 d2 s2 v2 q2 r2 e2 f2 g2 => ?_))|simp -implicitDefEqProofs(maxSteps:=2000000)(disch:=first|assumption|omega)[*, ])
 repeat' (first|(with_reducible first|refine bt ?_|refine bf ?_|(first|refine bc ?_ ?_|refine gc ?_ ?_|refine pc ?_ ?_)<;>intro _|refine callRows (c3 _ _) (fun x3 J3 d3 s3 v3 q3 r3 e3 f3 g3 => ?_))|simp -implicitDefEqProofs(maxSteps:=2000000)(disch:=first|assumption|omega)[*, ])
 clear c1 c2 c3
 repeat' (first|(with_reducible first|refine bt ?_|refine bf ?_|(first|refine bc ?_ ?_|refine gc ?_ ?_|refine pc ?_ ?_)<;>intro _)|simp -implicitDefEqProofs(maxSteps:=2000000)(disch:=first|assumption|omega)[*, ])
 refine ⟨AObj.cells [.int .i64 c.now, row c.threads, row c.owners, row c.counts, x1, row c.lockq, row c.waitq, row c.downq, x2, x3] :: AObj.cells [.int .i64 c.now, row c.threads, row c.owners, row c.counts, x1, row c.lockq, row c.waitq, row c.downq, x2, x3] :: (J1 ++ (J2 ++ J3)), x1, x2, x3, s1, s2, s3, 2 + d1, 2 + J1.length + d2, 2 + J1.length + J2.length + d3, rfl, ⟨rfl, ?_, ?_, ?_, g1.mono (g2.pre.trans g3.pre), (g2.back g1.pre).mono g3.pre, g3.back (g1.pre.trans g2.pre), ?_, ?_, ?_⟩⟩
 ·exact (rowR_lift (S1 := s ++ (AObj.cells [.int .i64 c.now, row c.threads, row c.owners, row c.counts, x1, row c.lockq, row c.waitq, row c.downq, x2, x3] :: AObj.cells [.int .i64 c.now, row c.threads, row c.owners, row c.counts, x1, row c.lockq, row c.waitq, row c.downq, x2, x3] :: [])) (B := J2 ++ (J3)) r1 f1 (by simp)).eq (by simp) (by simp; omega)
 ·exact (rowR_lift (S1 := s ++ (AObj.cells [.int .i64 c.now, row c.threads, row c.owners, row c.counts, x1, row c.lockq, row c.waitq, row c.downq, x2, x3] :: AObj.cells [.int .i64 c.now, row c.threads, row c.owners, row c.counts, x1, row c.lockq, row c.waitq, row c.downq, x2, x3] :: (J1))) (B := J3) r2 f2 (by simp)).eq (by simp) (by simp; omega)
 ·exact (rowR_lift (S1 := s ++ (AObj.cells [.int .i64 c.now, row c.threads, row c.owners, row c.counts, x1, row c.lockq, row c.waitq, row c.downq, x2, x3] :: AObj.cells [.int .i64 c.now, row c.threads, row c.owners, row c.counts, x1, row c.lockq, row c.waitq, row c.downq, x2, x3] :: (J1 ++ (J2)))) (B := ([] : List AObj)) r3 f3 (by simp)).eq (by simp) (by simp; omega)
 ·exact ⟨by omega, fun h => by have := f1 h; omega⟩
 ·exact ⟨by omega, fun h => by have := f2 h; omega⟩
 ·omega
theorem idx_p {l : List Int} {x : Int} (hb : l.length ≤ 9223372036854775807) : PureE Tryz.prog 187 [row l, .int .i64 x] (.int .i64 (idx l x)) := by
 refine .of fun s v => ?_
 refine aCalls_go Tryz.func187 rfl (by decide) Tryz.ntmps187 (by simp) false ?_
 have hres : Tryz.f187.results = #[.tmp 4] := rfl
 repeat' (first|(with_reducible first|refine bt ?_|refine bf ?_|(first|refine bc ?_ ?_|refine gc ?_ ?_|refine pc ?_ ?_)<;>intro _)|simp -implicitDefEqProofs(maxSteps:=2000000)(disch:=first|assumption|omega)[*, ])
 refine aW_for (β := Unit) false l.length (fun k _ => ∀ j, j < k → nth l j ≠ x) (fun k _ => [(5, .int .i64 k), (6, .any), (7, .any), (8, .any), (9, .any), (12, .any), (13, .any), (14, .any), (15, .any), (16, .any), (17, .any), (18, .any), (4, .any), (10, .any), (11, .any)]) (fun _ _ => s) (fun _ _ => v) ?_ ?_
 ·exact ⟨(), by simp, by (refine Fits.of ?_ (Off.refl _ _); simp [upd_apply, upds_cons]), rfl, rfl⟩
 rintro k _ hk hI
 by_cases hlt : k < l.length
 ·have hx := ix_in (l := l) (i := (k : Int)) (by omega) (by omega)
  by_cases he : nth l k = x
  ·have hf : idx l x = k := fidx_at (p := fun y => decide (y = x)) hlt (fun j hj => by simpa using hI j hj) (by simpa using he)
   rw [hf]
   repeat' (first|(with_reducible first|refine bt ?_|refine bf ?_|(first|refine bc ?_ ?_|refine gc ?_ ?_|refine pc ?_ ?_)<;>intro _)|simp -implicitDefEqProofs(maxSteps:=2000000)(disch:=first|assumption|omega)[*, ])
   exact EndsE.eq rfl (by simp)
  ·repeat' (first|(with_reducible first|refine bt ?_|refine bf ?_|(first|refine bc ?_ ?_|refine gc ?_ ?_|refine pc ?_ ?_)<;>intro _)|simp -implicitDefEqProofs(maxSteps:=2000000)(disch:=first|assumption|omega)[*, ])
   exact ⟨hlt, (), fun j hj => by
    by_cases e : j = k
    ·subst e; exact he
    ·exact hI j (by omega), by (refine Fits.of ?_ ?_; rotate_left; (repeat (first | with_reducible exact Off.refl _ _ | refine Off.upd rfl ?_ | refine Off.updO rfl ?_ | refine Off.upds rfl ?_)); simp [upd_apply, upds_cons]), rfl, rfl⟩
 ·have : k = l.length := by omega
  subst this
  have hf : idx l x = -1 := fidx_none (p := fun y => decide (y = x)) fun j hj => by simpa using hI j hj
  rw [hf]
  repeat' (first|(with_reducible first|refine bt ?_|refine bf ?_|(first|refine bc ?_ ?_|refine gc ?_ ?_|refine pc ?_ ?_)<;>intro _)|simp -implicitDefEqProofs(maxSteps:=2000000)(disch:=first|assumption|omega)[*, ])
  exact EndsE.eq rfl (by simp)
theorem chready_p {c : Cor} {ch : Int} (hb : CorB c) (h0 : 0 ≤ ch) (h1 : ch < c.bufs.length) (h2 : ch < c.sendq.length) : PureE Tryz.prog 290 [.agg [.int .i64 c.now, row c.threads, row c.owners, row c.counts, row c.bufs, row c.lockq, row c.waitq, row c.downq, row c.sendq, row c.recvq], .int .i64 ch] (.bool (readyC c ch)) := by
 refine .of fun s v => ?_
 have hx := ix_in h0 h1
 have hx2 := ix_in h0 h2
 have b1 := hb.bufs.2 _ (nth_mem (k := ch.toNat) (by omega))
 have b2 := hb.sendq.2 _ (nth_mem (k := ch.toNat) (by omega))
 unfold readyC at'
 refine aCalls_go Tryz.func290 rfl (by decide) Tryz.ntmps290 (by simp) false ?_
 have hres : Tryz.f290.results = #[.tmp 4] := rfl
 repeat' (first|(with_reducible first|refine bt ?_|refine bf ?_|(first|refine bc ?_ ?_|refine gc ?_ ?_|refine pc ?_ ?_)<;>intro _)|simp -implicitDefEqProofs(maxSteps:=2000000)(disch:=first|assumption|omega)[*, ])
 all_goals exact EndsE.eqat (by simp [*]) (by simp)
end Go.Hb
