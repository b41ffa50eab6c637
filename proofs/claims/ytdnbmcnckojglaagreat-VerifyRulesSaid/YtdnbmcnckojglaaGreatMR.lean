/-
  A layer for reasoning about the program's calls, and contracts of its functions (MR). CONDITIONS: none; each theorem bears its own.
-/
import Derived.Test.YtdnbmcnckojglaaGreatMQ
set_option linter.unusedVariables false
set_option linter.unusedSimpArgs false
namespace Go.Hb
open Go Go.Proofs Go.RowKit
set_option maxRecDepth 100000
set_option maxHeartbeats 800000
attribute [-simp] aC aL aOper aThen aInBlock aIf aPlan aAppend aLen aIndexAddr aSlice aCells aBounds lBr aq initT aev aAppendOwn aAppendNil aAppendNew aAppendRef LV.cells LV.cellsOk getElem?_pos getElem?_neg
theorem meet1_p {x : Xs} {a w : Int} (h0 : 0 ≤ x.t) (h1 : x.t < x.c.threads.length) (h : XsE 1000 x ∧ count2 x.c < fu) : PureC Tryz.prog 100 [.agg x.lv, .agg [.int .i64 1, .int .i64 a, .int .i64 w]] (.agg (endF x x.t w).lv) := by
 refine .of fun s v => ?_
 have he := xendF_p (code := w) h0 h1 h
 generalize endF x x.t w = z at *
 simp only [Xs.lv'] at he ⊢
 refine aCalls_go Tryz.func100 rfl (by decide) Tryz.ntmps100 (by simp) false ?_
 have hres : Tryz.f100.results = #[.cell 4 139] := rfl
 repeat' (first|(with_reducible first|refine bt ?_|refine bf ?_|(first|refine bc ?_ ?_|refine gc ?_ ?_|refine pc ?_ ?_)<;>intro _|refine andC ?_ ?_|refine callC he (fun v2 hv2 => ?_))|simp -implicitDefEqProofs(maxSteps:=2000000)(disch:=first|assumption|omega)[*, ])
 all_goals exact Ends.eqat rfl (by simp) hv2
theorem meet_p {p : Prog} (hp : MayP p) {x : Xs} (h : Run p x) (hs : Small x) {q : Req} (hq : ReqI p q) : PureC Tryz.prog 100 [.agg x.lv, .agg [.int .i64 q.kind, .int .i64 q.a, .int .i64 q.v]] (.agg (meetX x q).lv) := by
 have hk := hq.kind
 have hn1 := h.inv.nthr.2
 have hn2 := hp.threads.2
 unfold meetX
 rw [if_neg hk.2.2]
 by_cases h3 : q.kind = 3
 ·refine .of fun s v => ?_
  have hc := hq.spawn h3
  have hd := spawn_p hp h hs hc.1 hc.2
  rw [if_pos h3]
  generalize spawnX x q.a = z at *
  clear hn1 hn2
  obtain ⟨kind, a, w⟩ := q
  simp only at h3 hd; subst h3
  simp only [Xs.lv'] at hd ⊢
  refine aCalls_go Tryz.func100 rfl (by decide) Tryz.ntmps100 (by simp) false ?_
  have hres : Tryz.f100.results = #[.cell 4 139] := rfl
  repeat' (first|(with_reducible first|refine bt ?_|refine bf ?_|(first|refine bc ?_ ?_|refine gc ?_ ?_|refine pc ?_ ?_)<;>intro _|refine andC ?_ ?_|refine callC hd (fun v2 hv2 => ?_))|simp -implicitDefEqProofs(maxSteps:=2000000)(disch:=first|assumption|omega)[*, ])
  all_goals exact Ends.eqat rfl (by simp) hv2
 rw [if_neg h3]
 by_cases h4 : q.kind = 4
 ·refine .of fun s v => ?_
  rw [if_pos h4]
  have hv := hq.v
  have hnow := h.inv.now
  have hkp := keep_p (x.c.now + q.v)
  obtain ⟨kind, a, w⟩ := q
  simp only at h4 hv hkp ⊢; subst h4
  by_cases hlt : x.c.now < keep (x.c.now + w)
  ·rw [if_pos hlt]
   have hd := rest_p (x := x) (t := x.t) (st := 1) (on := keep (x.c.now + w)) (by omega) h.t.1 h.t.2
   generalize restX x x.t 1 (keep (x.c.now + w)) = z at *
   generalize keep (x.c.now + w) = on at *
   simp only [Xs.lv'] at hd ⊢
   refine aCalls_go Tryz.func100 rfl (by decide) Tryz.ntmps100 (by simp) false ?_
   have hres : Tryz.f100.results = #[.cell 4 139] := rfl
   repeat' (first|(with_reducible first|refine bt ?_|refine bf ?_|(first|refine bc ?_ ?_|refine gc ?_ ?_|refine pc ?_ ?_)<;>intro _|refine andC ?_ ?_|refine callE hkp ?_|refine callC hd (fun v2 hv2 => ?_))|simp -implicitDefEqProofs(maxSteps:=2000000)(disch:=first|assumption|omega)[*, ])
   all_goals exact Ends.eqat rfl (by simp) hv2
  ·rw [if_neg hlt]
   generalize keep (x.c.now + w) = on at *
   simp only [Xs.lv']
   refine aCalls_go Tryz.func100 rfl (by decide) Tryz.ntmps100 (by simp) false ?_
   have hres : Tryz.f100.results = #[.cell 4 139] := rfl
   repeat' (first|(with_reducible first|refine bt ?_|refine bf ?_|(first|refine bc ?_ ?_|refine gc ?_ ?_|refine pc ?_ ?_)<;>intro _|refine andC ?_ ?_|refine callE hkp ?_)|simp -implicitDefEqProofs(maxSteps:=2000000)(disch:=first|assumption|omega)[*, ])
   all_goals exact Ends.eqat rfl (by simp) (List.prefix_refl _)
 rw [if_neg h4]
 by_cases h5 : q.kind = 5
 ·refine .of fun s v => ?_
  have hd := join_p hp h hs q.v
  rw [if_pos h5]
  generalize joinX x q.v = z at *
  clear hn1 hn2
  obtain ⟨kind, a, w⟩ := q
  simp only at h5 hd; subst h5
  simp only [Xs.lv'] at hd ⊢
  refine aCalls_go Tryz.func100 rfl (by decide) Tryz.ntmps100 (by simp) false ?_
  have hres : Tryz.f100.results = #[.cell 4 139] := rfl
  repeat' (first|(with_reducible first|refine bt ?_|refine bf ?_|(first|refine bc ?_ ?_|refine gc ?_ ?_|refine pc ?_ ?_)<;>intro _|refine andC ?_ ?_|refine callC hd (fun v2 hv2 => ?_))|simp -implicitDefEqProofs(maxSteps:=2000000)(disch:=first|assumption|omega)[*, ])
  all_goals exact Ends.eqat rfl (by simp) hv2
 rw [if_neg h5]
 by_cases h6 : q.kind = 6 ∨ q.kind = 7 ∨ q.kind = 8 ∨ q.kind = 9 ∨ q.kind = 10
 ·refine .of fun s v => ?_
  have hd := mutexes_p hp h hs hq h6
  rw [if_pos h6]
  generalize mutexX x q.kind q.a = z at *
  clear hn1 hn2 hk hq h3 h4 h5
  obtain ⟨kind, a, w⟩ := q
  simp only at h6 hd ⊢
  simp only [Xs.lv'] at hd ⊢
  rcases h6 with h6 | h6 | h6 | h6 | h6
  all_goals subst h6
  ·refine aCalls_go Tryz.func100 rfl (by decide) Tryz.ntmps100 (by simp) false ?_
   have hres : Tryz.f100.results = #[.cell 4 139] := rfl
   repeat' (first|(with_reducible first|refine bt ?_|refine bf ?_|(first|refine bc ?_ ?_|refine gc ?_ ?_|refine pc ?_ ?_)<;>intro _|refine andC ?_ ?_|refine callC hd (fun v2 hv2 => ?_))|simp -implicitDefEqProofs(maxSteps:=2000000)(disch:=first|assumption|omega)[*, ])
   all_goals exact Ends.eqat rfl (by simp) hv2
  ·refine aCalls_go Tryz.func100 rfl (by decide) Tryz.ntmps100 (by simp) false ?_
   have hres : Tryz.f100.results = #[.cell 4 139] := rfl
   repeat' (first|(with_reducible first|refine bt ?_|refine bf ?_|(first|refine bc ?_ ?_|refine gc ?_ ?_|refine pc ?_ ?_)<;>intro _|refine andC ?_ ?_|refine callC hd (fun v2 hv2 => ?_))|simp -implicitDefEqProofs(maxSteps:=2000000)(disch:=first|assumption|omega)[*, ])
   all_goals exact Ends.eqat rfl (by simp) hv2
  ·refine aCalls_go Tryz.func100 rfl (by decide) Tryz.ntmps100 (by simp) false ?_
   have hres : Tryz.f100.results = #[.cell 4 139] := rfl
   repeat' (first|(with_reducible first|refine bt ?_|refine bf ?_|(first|refine bc ?_ ?_|refine gc ?_ ?_|refine pc ?_ ?_)<;>intro _|refine andC ?_ ?_|refine callC hd (fun v2 hv2 => ?_))|simp -implicitDefEqProofs(maxSteps:=2000000)(disch:=first|assumption|omega)[*, ])
   all_goals exact Ends.eqat rfl (by simp) hv2
  ·refine aCalls_go Tryz.func100 rfl (by decide) Tryz.ntmps100 (by simp) false ?_
   have hres : Tryz.f100.results = #[.cell 4 139] := rfl
   repeat' (first|(with_reducible first|refine bt ?_|refine bf ?_|(first|refine bc ?_ ?_|refine gc ?_ ?_|refine pc ?_ ?_)<;>intro _|refine andC ?_ ?_|refine callC hd (fun v2 hv2 => ?_))|simp -implicitDefEqProofs(maxSteps:=2000000)(disch:=first|assumption|omega)[*, ])
   all_goals exact Ends.eqat rfl (by simp) hv2
  ·refine aCalls_go Tryz.func100 rfl (by decide) Tryz.ntmps100 (by simp) false ?_
   have hres : Tryz.f100.results = #[.cell 4 139] := rfl
   repeat' (first|(with_reducible first|refine bt ?_|refine bf ?_|(first|refine bc ?_ ?_|refine gc ?_ ?_|refine pc ?_ ?_)<;>intro _|refine andC ?_ ?_|refine callC hd (fun v2 hv2 => ?_))|simp -implicitDefEqProofs(maxSteps:=2000000)(disch:=first|assumption|omega)[*, ])
   all_goals exact Ends.eqat rfl (by simp) hv2
 rw [if_neg h6]
 by_cases h11 : q.kind = 11 ∨ q.kind = 12
 ·refine .of fun s v => ?_
  have hc := hq.sema h11
  have hd := semas_p hp h hs (kind := q.kind) hc.1 hc.2
  rw [if_pos h11]
  generalize semaX x q.kind q.a = z at *
  clear hn1 hn2 hk hq h3 h4 h5 h6
  obtain ⟨kind, a, w⟩ := q
  simp only at h11 hd ⊢
  simp only [Xs.lv'] at hd ⊢
  rcases h11 with h6 | h6
  all_goals subst h6
  ·refine aCalls_go Tryz.func100 rfl (by decide) Tryz.ntmps100 (by simp) false ?_
   have hres : Tryz.f100.results = #[.cell 4 139] := rfl
   repeat' (first|(with_reducible first|refine bt ?_|refine bf ?_|(first|refine bc ?_ ?_|refine gc ?_ ?_|refine pc ?_ ?_)<;>intro _|refine andC ?_ ?_|refine callC hd (fun v2 hv2 => ?_))|simp -implicitDefEqProofs(maxSteps:=2000000)(disch:=first|assumption|omega)[*, ])
   all_goals exact Ends.eqat rfl (by simp) hv2
  ·refine aCalls_go Tryz.func100 rfl (by decide) Tryz.ntmps100 (by simp) false ?_
   have hres : Tryz.f100.results = #[.cell 4 139] := rfl
   repeat' (first|(with_reducible first|refine bt ?_|refine bf ?_|(first|refine bc ?_ ?_|refine gc ?_ ?_|refine pc ?_ ?_)<;>intro _|refine andC ?_ ?_|refine callC hd (fun v2 hv2 => ?_))|simp -implicitDefEqProofs(maxSteps:=2000000)(disch:=first|assumption|omega)[*, ])
   all_goals exact Ends.eqat rfl (by simp) hv2
 rw [if_neg h11]
 by_cases h13 : q.kind = 13 ∨ q.kind = 14 ∨ q.kind = 15
 ·refine .of fun s v => ?_
  have hd : PureC Tryz.prog 182 [.agg x.lv, .agg [.int .i64 q.kind, .int .i64 q.a, .int .i64 q.v]] (.agg (chanX x q).lv) := by
   rcases h13 with h13 | h13 | h13
   ·have := hq.chan (.inl h13); exact chanS_p hp h hs h13 this.1 this.2
   ·have := hq.chan (.inr h13); exact chanR_p hp h hs h13 this.1 this.2
   ·have := hq.choice h13; exact chanC_p hp h hs h13 this.1 this.2
  rw [if_pos h13]
  generalize chanX x q = z at *
  clear hn1 hn2 hk hq h3 h4 h5 h6 h11
  obtain ⟨kind, a, w⟩ := q
  simp only at h13 hd ⊢
  simp only [Xs.lv'] at hd ⊢
  rcases h13 with h6 | h6 | h6
  all_goals subst h6
  ·refine aCalls_go Tryz.func100 rfl (by decide) Tryz.ntmps100 (by simp) false ?_
   have hres : Tryz.f100.results = #[.cell 4 139] := rfl
   repeat' (first|(with_reducible first|refine bt ?_|refine bf ?_|(first|refine bc ?_ ?_|refine gc ?_ ?_|refine pc ?_ ?_)<;>intro _|refine andC ?_ ?_|refine callC hd (fun v2 hv2 => ?_))|simp -implicitDefEqProofs(maxSteps:=2000000)(disch:=first|assumption|omega)[*, ])
   all_goals exact Ends.eqat rfl (by simp) hv2
  ·refine aCalls_go Tryz.func100 rfl (by decide) Tryz.ntmps100 (by simp) false ?_
   have hres : Tryz.f100.results = #[.cell 4 139] := rfl
   repeat' (first|(with_reducible first|refine bt ?_|refine bf ?_|(first|refine bc ?_ ?_|refine gc ?_ ?_|refine pc ?_ ?_)<;>intro _|refine andC ?_ ?_|refine callC hd (fun v2 hv2 => ?_))|simp -implicitDefEqProofs(maxSteps:=2000000)(disch:=first|assumption|omega)[*, ])
   all_goals exact Ends.eqat rfl (by simp) hv2
  ·refine aCalls_go Tryz.func100 rfl (by decide) Tryz.ntmps100 (by simp) false ?_
   have hres : Tryz.f100.results = #[.cell 4 139] := rfl
   repeat' (first|(with_reducible first|refine bt ?_|refine bf ?_|(first|refine bc ?_ ?_|refine gc ?_ ?_|refine pc ?_ ?_)<;>intro _|refine andC ?_ ?_|refine callC hd (fun v2 hv2 => ?_))|simp -implicitDefEqProofs(maxSteps:=2000000)(disch:=first|assumption|omega)[*, ])
   all_goals exact Ends.eqat rfl (by simp) hv2
 rw [if_neg h13]
 by_cases h16 : q.kind = 16
 ·refine .of fun s v => ?_
  rw [if_pos h16]
  have hd := see_p (x := x) (k := 0) (t := x.t) (n := q.v) (by have := hs.1; omega)
  generalize seeX x 0 x.t q.v = z at *
  obtain ⟨kind, a, w⟩ := q
  simp only at h16 hd ⊢; subst h16
  simp only [Xs.lv'] at hd ⊢
  refine aCalls_go Tryz.func100 rfl (by decide) Tryz.ntmps100 (by simp) false ?_
  have hres : Tryz.f100.results = #[.cell 4 139] := rfl
  repeat' (first|(with_reducible first|refine bt ?_|refine bf ?_|(first|refine bc ?_ ?_|refine gc ?_ ?_|refine pc ?_ ?_)<;>intro _|refine andC ?_ ?_|refine callC hd (fun v2 hv2 => ?_))|simp -implicitDefEqProofs(maxSteps:=2000000)(disch:=first|assumption|omega)[*, ])
  all_goals exact Ends.eqat rfl (by simp) hv2
 ·refine .of fun s v => ?_
  rw [if_neg h16]
  have h02 : q.kind = 0 ∨ q.kind = 2 := by omega
  clear hk hq h3 h4 h5 h6 h11 h13 h16
  obtain ⟨kind, a, w⟩ := q
  simp only at h02 ⊢
  simp only [Xs.lv']
  rcases h02 with h6 | h6
  all_goals subst h6
  ·refine aCalls_go Tryz.func100 rfl (by decide) Tryz.ntmps100 (by simp) false ?_
   have hres : Tryz.f100.results = #[.cell 4 139] := rfl
   repeat' (first|(with_reducible first|refine bt ?_|refine bf ?_|(first|refine bc ?_ ?_|refine gc ?_ ?_|refine pc ?_ ?_)<;>intro _|refine andC ?_ ?_)|simp -implicitDefEqProofs(maxSteps:=2000000)(disch:=first|assumption|omega)[*, ])
   all_goals exact Ends.eqat rfl (by simp) (List.prefix_refl _)
  ·refine aCalls_go Tryz.func100 rfl (by decide) Tryz.ntmps100 (by simp) false ?_
   have hres : Tryz.f100.results = #[.cell 4 139] := rfl
   repeat' (first|(with_reducible first|refine bt ?_|refine bf ?_|(first|refine bc ?_ ?_|refine gc ?_ ?_|refine pc ?_ ?_)<;>intro _|refine andC ?_ ?_)|simp -implicitDefEqProofs(maxSteps:=2000000)(disch:=first|assumption|omega)[*, ])
   all_goals exact Ends.eqat rfl (by simp) (List.prefix_refl _)
end Go.Hb
