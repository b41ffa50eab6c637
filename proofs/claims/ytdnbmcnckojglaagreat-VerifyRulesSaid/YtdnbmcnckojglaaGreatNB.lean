/-
  A layer for reasoning about the program's calls, and contracts of its functions (NB). CONDITIONS: none; each theorem bears its own.
-/
import Derived.Test.YtdnbmcnckojglaaGreatNA
import Derived.Test.YtdnbmcnckojglaaGreatL9
set_option linter.unusedVariables false
set_option linter.unusedSimpArgs false
namespace Go.Hb
open Go Go.Proofs Go.RowKit
set_option maxRecDepth 100000
set_option maxHeartbeats 800000
attribute [-simp] aC aL aOper aThen aInBlock aIf aPlan aAppend aLen aIndexAddr aSlice aCells aBounds lBr aq initT aev aAppendOwn aAppendNil aAppendNew aAppendRef LV.cells LV.cellsOk getElem?_pos getElem?_neg
theorem callWE2 {P : Program} {f : FuncId} {args args' : List LV} {s : List AObj} {v : List Nat} {y : LV} {K : LV → List AObj → List Nat → Prop} (h : PureE P f args' y) (hw : Weaks args args') (k : K y s v) : aCalls P f args s v K := aCalls_argw hw (callE h k)
theorem imm1_row2 {n : Nat} {cs : List LV} {r : Right} {l : List Int} (hc : cs = rowCs l) (hn : n = l.length) : Weak (.imm 1 n cs r) (row l) := by subst hc; exact Weak.row (Weaks.refl _) hn
theorem vin_p {p : Prog} {c : Cor} {i : Int} {l : List Int} (h0 : 0 ≤ i) (h1 : i < c.threads.length) (hb : l.length ≤ 100) : PureE Tryz.prog 68 [.agg [row p.funcs, .int .i64 p.mutexes, row p.conds, row p.semas, row p.chans, row p.choices, .int .i64 p.threads, .int .i64 c.now, row c.threads, row c.owners, row c.counts, row c.bufs, row c.lockq, row c.waitq, row c.downq, row c.sendq, row c.recvq], .int .i64 i, row l] (.bool (decide ((nth c.threads i.toNat).state ∈ l))) := by
 refine .of fun s v => ?_
 have hx := ix_in h0 h1
 have hc := contains_p (l := l) (x := (nth c.threads i.toNat).state) (by omega)
 generalize decide ((nth c.threads i.toNat).state ∈ l) = b at *
 refine aCalls_go Tryz.func68 rfl (by decide) Tryz.ntmps68 (by simp) false ?_
 have hres : Tryz.f68.results = #[.tmp 6] := rfl
 repeat' (first|(with_reducible first|refine bt ?_|refine bf ?_|(first|refine bc ?_ ?_|refine gc ?_ ?_|refine pc ?_ ?_)<;>intro _|refine callE hc ?_)|simp -implicitDefEqProofs(maxSteps:=2000000)(disch:=first|assumption|omega)[*, ])
 all_goals exact EndsE.eqat rfl (by simp)
theorem vwaits_p {p : Prog} {c : Cor} {i : Int} (h0 : 0 ≤ i) (h1 : i < c.threads.length) : PureE Tryz.prog 103 [.agg [row p.funcs, .int .i64 p.mutexes, row p.conds, row p.semas, row p.chans, row p.choices, .int .i64 p.threads, .int .i64 c.now, row c.threads, row c.owners, row c.counts, row c.bufs, row c.lockq, row c.waitq, row c.downq, row c.sendq, row c.recvq], .int .i64 i] (.bool (waitsC (nth c.threads i.toNat).state)) := by
 refine .of fun s v => ?_
 have hin := vin_p (p := p) (l := [3, 4, 5, 6, 7, 8]) h0 h1 (by simp)
 have hw : Weak (.imm 1 6 [.int .i64 3, .int .i64 4, .int .i64 5, .int .i64 6, .int .i64 7, .int .i64 8] .full) (row [(3 : Int), 4, 5, 6, 7, 8]) := imm1_row2 rfl rfl
 unfold waitsC
 generalize decide ((nth c.threads i.toNat).state ∈ [(3 : Int), 4, 5, 6, 7, 8]) = b at *
 refine aCalls_go Tryz.func103 rfl (by decide) Tryz.ntmps103 (by simp) false ?_
 have hres : Tryz.f103.results = #[.tmp 4] := rfl
 repeat' (first|(with_reducible first|refine bt ?_|refine bf ?_|(first|refine bc ?_ ?_|refine gc ?_ ?_|refine pc ?_ ?_)<;>intro _|refine callWE2 hin (by simp [hw]) ?_)|simp -implicitDefEqProofs(maxSteps:=2000000)(disch:=first|assumption|omega)[*, ])
 all_goals exact EndsE.eqat rfl (by simp)
set_option maxHeartbeats 8000000 in
theorem vrow_p {p : Prog} {c : Cor} (h : ShC p c) (r : Int) : PureC Tryz.prog 105 [.agg [row p.funcs, .int .i64 p.mutexes, row p.conds, row p.semas, row p.chans, row p.choices, .int .i64 p.threads, .int .i64 c.now, row c.threads, row c.owners, row c.counts, row c.bufs, row c.lockq, row c.waitq, row c.downq, row c.sendq, row c.recvq], .int .i64 r] (row (rowsC c r)) := by
 refine .of fun s v => ?_
 unfold rowsC
 by_cases h3 : r = 3
 ·rw [if_pos h3]; subst h3
  refine aCalls_go Tryz.func105 rfl (by decide) Tryz.ntmps105 (by simp) false ?_
  have hres : Tryz.f105.results = #[.tmp 4] := rfl
  repeat' (first|(with_reducible first|refine bt ?_|refine bf ?_|(first|refine bc ?_ ?_|refine gc ?_ ?_|refine pc ?_ ?_)<;>intro _)|simp -implicitDefEqProofs(maxSteps:=2000000)(disch:=first|assumption|omega)[*, ])
  all_goals exact Ends.eqat rfl (by simp) (List.prefix_refl _)
 rw [if_neg h3]
 by_cases h4 : r = 4
 ·rw [if_pos h4]; subst h4
  refine aCalls_go Tryz.func105 rfl (by decide) Tryz.ntmps105 (by simp) false ?_
  have hres : Tryz.f105.results = #[.tmp 4] := rfl
  repeat' (first|(with_reducible first|refine bt ?_|refine bf ?_|(first|refine bc ?_ ?_|refine gc ?_ ?_|refine pc ?_ ?_)<;>intro _)|simp -implicitDefEqProofs(maxSteps:=2000000)(disch:=first|assumption|omega)[*, ])
  all_goals exact Ends.eqat rfl (by simp) (List.prefix_refl _)
 rw [if_neg h4]
 by_cases h5 : r = 5
 ·rw [if_pos h5]; subst h5
  refine aCalls_go Tryz.func105 rfl (by decide) Tryz.ntmps105 (by simp) false ?_
  have hres : Tryz.f105.results = #[.tmp 4] := rfl
  repeat' (first|(with_reducible first|refine bt ?_|refine bf ?_|(first|refine bc ?_ ?_|refine gc ?_ ?_|refine pc ?_ ?_)<;>intro _)|simp -implicitDefEqProofs(maxSteps:=2000000)(disch:=first|assumption|omega)[*, ])
  all_goals exact Ends.eqat rfl (by simp) (List.prefix_refl _)
 rw [if_neg h5]
 by_cases h7 : r = 7
 ·rw [if_pos h7]; subst h7
  refine aCalls_go Tryz.func105 rfl (by decide) Tryz.ntmps105 (by simp) false ?_
  have hres : Tryz.f105.results = #[.tmp 4] := rfl
  repeat' (first|(with_reducible first|refine bt ?_|refine bf ?_|(first|refine bc ?_ ?_|refine gc ?_ ?_|refine pc ?_ ?_)<;>intro _)|simp -implicitDefEqProofs(maxSteps:=2000000)(disch:=first|assumption|omega)[*, ])
  all_goals exact Ends.eqat rfl (by simp) (List.prefix_refl _)
 rw [if_neg h7]
 by_cases h6 : r = 6
 ·rw [if_pos h6]; subst h6
  have hb := h.b.sendq
  have hb1 := hb.1
  refine aCalls_go Tryz.func105 rfl (by decide) Tryz.ntmps105 (by simp) false ?_
  have hres : Tryz.f105.results = #[.tmp 4] := rfl
  repeat' (first|(with_reducible first|refine bt ?_|refine bf ?_|(first|refine bc ?_ ?_|refine gc ?_ ?_|refine pc ?_ ?_)<;>intro _)|simp -implicitDefEqProofs(maxSteps:=2000000)(disch:=first|assumption|omega)[*, ])
  refine aW_for0 (β := LV × List Nat) false c.sendq.length (fun k q => GroE v q.2 ((c.sendq.map evens).take k) q.1) (fun k q => [(5, q.1), (34, .int .i64 k), (35, .any), (36, .any), (6, .any), (37, .any), (38, .any), (39, .any), (40, .any), (41, .any), (42, .any), (43, .any), (44, .any)]) (fun _ q => q.2) ⟨(.nils, v), GroE.nil _, by (refine Fits.of ?_ (Off.refl _ _); simp [upd_apply, upds_cons]), rfl⟩ ?_
  rintro k ⟨x, v1⟩ hk hG
  simp only at hG
  have hgc := hG.gro.cells
  by_cases hlt : k < c.sendq.length
  ·have hbk := hb.2 _ (nth_mem hlt)
   have hse := senders_p (c := c) (ch := k) (by omega) (by omega) (h.even k hlt) (by show (nth c.sendq k).length ≤ _; omega)
   have hsk : nth (c.sendq.map evens) k = evens (nth c.sendq k) := by rw [nth_eq (by simpa using hlt), nth_eq hlt]; simp
   have hss : (c.sendq.map evens).take (k + 1) = (c.sendq.map evens).take k ++ [evens (nth c.sendq k)] := by rw [take_succ_nth (by simpa using hlt), hsk]
   rw [Int.toNat_natCast] at hse
   repeat' (first|(with_reducible first|refine bt ?_|refine bf ?_|(first|refine bc ?_ ?_|refine gc ?_ ?_|refine pc ?_ ?_)<;>intro _|refine callC hse (fun v2 hv2 => ?_))|simp -implicitDefEqProofs(maxSteps:=2000000)(disch:=first|assumption|omega)[*, ])
   have hG2 : GroE v v2 ((c.sendq.map evens).take k) x := GroC.mono hG hv2
   obtain ⟨x2, v3, g2, _, gb⟩ := hG2.push (P := Tryz.prog) (t := 24) (t2 := 24) (sz := 1) (by_ := 24) (by kernel_rfl) rfl (by omega) (evens (nth c.sendq k)) (by simp; omega)
   rw [← hss] at g2
   simp only [enc_list] at gb
   have hc2 := g2.gro.cells
   repeat' (first|(with_reducible first|refine bt ?_|refine bf ?_|(first|refine bc ?_ ?_|refine gc ?_ ?_|refine pc ?_ ?_)<;>intro _)|simp -implicitDefEqProofs(maxSteps:=2000000)(disch:=first|assumption|omega)[*, ])
   exact ⟨hlt, (x2, v3), g2, by (refine Fits.of ?_ ?_; rotate_left; (repeat (first | with_reducible exact Off.refl _ _ | refine Off.upd rfl ?_ | refine Off.updO rfl ?_ | refine Off.upds rfl ?_)); simp [upd_apply, upds_cons]), by simp, rfl⟩
  ·have hke : k = c.sendq.length := by omega
   subst hke
   have hfull : (c.sendq.map evens).take c.sendq.length = c.sendq.map evens := List.take_of_length_le (by simp)
   rw [hfull] at hG
   have hgw := hG.gro.weak
   have hgu := hG.gro.under
   repeat' (first|(with_reducible first|refine bt ?_|refine bf ?_|(first|refine bc ?_ ?_|refine gc ?_ ?_|refine pc ?_ ?_)<;>intro _)|simp -implicitDefEqProofs(maxSteps:=2000000)(disch:=first|assumption|omega)[*, ])
   exact Ends.at (by simp [hgu]) hgw hG.1
 ·rw [if_neg h6]
  refine aCalls_go Tryz.func105 rfl (by decide) Tryz.ntmps105 (by simp) false ?_
  have hres : Tryz.f105.results = #[.tmp 4] := rfl
  repeat' (first|(with_reducible first|refine bt ?_|refine bf ?_|(first|refine bc ?_ ?_|refine gc ?_ ?_|refine pc ?_ ?_)<;>intro _)|simp -implicitDefEqProofs(maxSteps:=2000000)(disch:=first|assumption|omega)[*, ])
  all_goals exact Ends.at (by simp) Weak.nilrow (List.prefix_refl _)
theorem vthings_p {p : Prog} {c : Cor} {i : Int} (h : ShC p c) (h0 : 0 ≤ i) (h1 : i < c.threads.length) : PureC Tryz.prog 104 [.agg [row p.funcs, .int .i64 p.mutexes, row p.conds, row p.semas, row p.chans, row p.choices, .int .i64 p.threads, .int .i64 c.now, row c.threads, row c.owners, row c.counts, row c.bufs, row c.lockq, row c.waitq, row c.downq, row c.sendq, row c.recvq], .int .i64 i] (.int .i64 (thingsC p c (nth c.threads i.toNat).state)) := by
 refine .of fun s v => ?_
 have hx := ix_in h0 h1
 have hin := vin_p (p := p) (l := [8]) h0 h1 (by simp)
 have hw : Weak (.imm 1 1 [.int .i64 8] .full) (row [(8 : Int)]) := imm1_row2 rfl rfl
 have hr := vrow_p h (nth c.threads i.toNat).state
 unfold thingsC
 by_cases h8 : (nth c.threads i.toNat).state = 8
 ·rw [if_pos h8]
  rw [show decide ((nth c.threads i.toNat).state ∈ [(8 : Int)]) = true by simp [h8]] at hin
  refine aCalls_go Tryz.func104 rfl (by decide) Tryz.ntmps104 (by simp) false ?_
  have hres : Tryz.f104.results = #[.tmp 4] := rfl
  repeat' (first|(with_reducible first|refine bt ?_|refine bf ?_|(first|refine bc ?_ ?_|refine gc ?_ ?_|refine pc ?_ ?_)<;>intro _|(refine dr P104 mixed ?_ ?_ ?_;kernel_rfl;kernel_rfl)|refine And.intro ?_ ?_|refine callWE2 hin (by simp [hw]) ?_)|simp -implicitDefEqProofs(maxSteps:=2000000)(disch:=first|assumption|omega)[*, ])
  all_goals exact Ends.eqat rfl (by simp) (List.prefix_refl _)
 ·rw [if_neg h8]
  rw [show decide ((nth c.threads i.toNat).state ∈ [(8 : Int)]) = false by simp [h8]] at hin
  refine aCalls_go Tryz.func104 rfl (by decide) Tryz.ntmps104 (by simp) false ?_
  have hres : Tryz.f104.results = #[.tmp 4] := rfl
  repeat' (first|(with_reducible first|refine bt ?_|refine bf ?_|(first|refine bc ?_ ?_|refine gc ?_ ?_|refine pc ?_ ?_)<;>intro _|(refine dr P104 mixed ?_ ?_ ?_;kernel_rfl;kernel_rfl)|refine And.intro ?_ ?_|refine callWE2 hin (by simp [hw]) ?_|refine callC hr (fun v2 hv2 => ?_))|simp -implicitDefEqProofs(maxSteps:=2000000)(disch:=first|assumption|omega)[*, ])
  all_goals exact Ends.eqat rfl (by simp) hv2
theorem von_p {p : Prog} {c : Cor} {i : Int} (h : ShC p c) (h0 : 0 ≤ i) (h1 : i < c.threads.length) : PureC Tryz.prog 71 [.agg [row p.funcs, .int .i64 p.mutexes, row p.conds, row p.semas, row p.chans, row p.choices, .int .i64 p.threads, .int .i64 c.now, row c.threads, row c.owners, row c.counts, row c.bufs, row c.lockq, row c.waitq, row c.downq, row c.sendq, row c.recvq], .int .i64 i] (.bool (onC p c (nth c.threads i.toNat))) := by
 refine .of fun s v => ?_
 have hx := ix_in h0 h1
 have hwt := vwaits_p (p := p) h0 h1
 have hth := vthings_p h h0 h1
 unfold onC
 generalize thingsC p c (nth c.threads i.toNat).state = n at *
 generalize waitsC (nth c.threads i.toNat).state = w at *
 cases w
 ·refine aCalls_go Tryz.func71 rfl (by decide) Tryz.ntmps71 (by simp) false ?_
  have hres : Tryz.f71.results = #[.tmp 4] := rfl
  repeat' (first|(with_reducible first|refine bt ?_|refine bf ?_|(first|refine bc ?_ ?_|refine gc ?_ ?_|refine pc ?_ ?_)<;>intro _|refine And.intro ?_ ?_|refine callE hwt ?_)|simp -implicitDefEqProofs(maxSteps:=2000000)(disch:=first|assumption|omega)[*, ])
  all_goals exact Ends.eqat rfl (by simp) (List.prefix_refl _)
 ·by_cases h2 : 0 ≤ (nth c.threads i.toNat).on
  ·refine aCalls_go Tryz.func71 rfl (by decide) Tryz.ntmps71 (by simp) false ?_
   have hres : Tryz.f71.results = #[.tmp 4] := rfl
   repeat' (first|(with_reducible first|refine bt ?_|refine bf ?_|(first|refine bc ?_ ?_|refine gc ?_ ?_|refine pc ?_ ?_)<;>intro _|refine And.intro ?_ ?_|refine callE hwt ?_|refine callC hth (fun v2 hv2 => ?_))|simp -implicitDefEqProofs(maxSteps:=2000000)(disch:=first|assumption|omega)[*, ])
   all_goals exact Ends.eqat (by simp [h2]) (by simp) hv2
  ·refine aCalls_go Tryz.func71 rfl (by decide) Tryz.ntmps71 (by simp) false ?_
   have hres : Tryz.f71.results = #[.tmp 4] := rfl
   repeat' (first|(with_reducible first|refine bt ?_|refine bf ?_|(first|refine bc ?_ ?_|refine gc ?_ ?_|refine pc ?_ ?_)<;>intro _|refine And.intro ?_ ?_|refine callE hwt ?_|refine callC hth (fun v2 hv2 => ?_))|simp -implicitDefEqProofs(maxSteps:=2000000)(disch:=first|assumption|omega)[*, ])
   all_goals exact Ends.eqat (by simp [h2]) (by simp) (List.prefix_refl _)
end Go.Hb
