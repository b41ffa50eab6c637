/-
  A layer for reasoning about the program's calls, and contracts of its functions (NG). CONDITIONS: none; each theorem bears its own.
-/
import Derived.Test.YtdnbmcnckojglaaGreatNF
import Derived.Test.YtdnbmcnckojglaaGreatMW
import Derived.Test.YtdnbmcnckojglaaGreatE
import Derived.Test.YtdnbmcnckojglaaGreatL9
import Derived.Test.YtdnbmcnckojglaaGreatP
set_option linter.unusedVariables false
set_option linter.unusedSimpArgs false
section
namespace Go.Hb
open Go Go.Proofs Go.RowKit
set_option maxRecDepth 100000
set_option maxHeartbeats 800000
attribute [-simp] aC aL aOper aThen aInBlock aIf aPlan aAppend aLen aIndexAddr aSlice aCells aBounds lBr aq initT aev aAppendOwn aAppendNil aAppendNew aAppendRef LV.cells LV.cellsOk getElem?_pos getElem?_neg
theorem new11_o {p : Prog} (hp : MayP p) {s : List AObj} {v : List Nat} : aCalls Tryz.prog 30 [.agg [row p.funcs, .int .i64 p.mutexes, row p.conds, row p.semas, row p.chans, row p.choices, .int .i64 p.threads]] s v fun x s' v' => ∃ a0 a1 a2 a3 c, coreNew p = c ∧ s ++ [a0, a1, a2, a3, .cells (thrNew p 0).lv] = s' ∧ v <+: v' ∧ x = .agg [.int .i64 0, .ref 5 (s.length + 4) 0 1 true, row c.owners, row c.counts, row c.bufs, row c.lockq, row c.waitq, row c.downq, row c.sendq, row c.recvq] := by
 have hm := hp.mutexes
 have hn9 := new09_p (m := p.mutexes.toNat) (k := p.conds.length) (l := p.semas) (by omega) (by have := hp.conds.1; omega) (by have := hp.semas.1; omega)
 rw [show ((p.mutexes.toNat : Nat) : Int) = p.mutexes by omega] at hn9
 have hn10 := new10_p (n := p.chans.length) (by omega) (by have := hp.chans.1; omega)
 have hfn := hp.funcs
 have hfc := hp.code _ (at_in (l := p.funcs) (t := 0) (by omega) (by omega))
 have hnew := thrNew_p (fs := p.funcs) (mu := p.mutexes) (th := p.threads) (co := p.conds) (se := p.semas) (ch := p.chans) (cho := p.choices) (f := 0) (by omega) (by omega) hfc.1 hfc.2.1
 rw [show (p.chans.length : Int).toNat = p.chans.length from Int.toNat_natCast _] at hn10
 have hc : coreNew p = ⟨0, [thrNew p 0], List.replicate p.mutexes.toNat (-1), p.semas, List.replicate p.chans.length [], List.replicate p.mutexes.toNat [], List.replicate p.conds.length [], List.replicate p.semas.length [], List.replicate p.chans.length [], List.replicate p.chans.length []⟩ := rfl
 rw [hc]
 clear hc
 generalize List.replicate p.chans.length ([] : List Int) = rc at *
 generalize List.replicate p.mutexes.toNat ([] : List Int) = rm at *
 generalize List.replicate p.mutexes.toNat (-1 : Int) = ro at *
 generalize List.replicate p.conds.length ([] : List Int) = rw' at *
 generalize List.replicate p.semas.length ([] : List Int) = rs at *
 have hnew' : PureE Tryz.prog 60 [.agg [row p.funcs, .int .i64 p.mutexes, row p.conds, row p.semas, row p.chans, row p.choices, .int .i64 p.threads], .int .i64 0] (.agg (thrNew p 0).lv) := hnew
 clear hnew
 generalize thrNew p 0 = th0 at *
 simp only [Cor.lv, Thr.lv] at hn9 hn10 hnew' ⊢
 refine aCalls_go Tryz.func30 rfl (by decide) Tryz.ntmps30 (by simp) true ?_
 have hres : Tryz.f30.results = #[.cell 2 30] := rfl
 repeat' (first|(with_reducible first|refine bt ?_|refine bf ?_|(first|refine bc ?_ ?_|refine gc ?_ ?_|refine pc ?_ ?_)<;>intro _|refine And.intro ?_ ?_|refine callC hn9 (fun v1 hv1 => ?_)|refine callE hn10 ?_|refine callE hnew' ?_)|simp -implicitDefEqProofs(maxSteps:=2000000)(disch:=first|assumption|omega)[*, ])
 all_goals exact ⟨_, _, _, _, _, rfl, rfl, hv1, rfl⟩
theorem play0_r {p : Prog} {c : Cor} {xt : LV} {s : List AObj} (hx : xt.cells = [xt] ∧ xt.cellsOk = true) (hu : xt.under s.length = true) :
  Ret Tryz.prog 29 [.agg [row p.funcs, .int .i64 p.mutexes, row p.conds, row p.semas, row p.chans, row p.choices, .int .i64 p.threads], .agg [.int .i64 c.now, xt, row c.owners, row c.counts, row c.bufs, row c.lockq, row c.waitq, row c.downq, row c.sendq, row c.recvq], .nils, .int .i64 80] s (.tup [.agg [.int .i64 c.now, xt, row c.owners, row c.counts, row c.bufs, row c.lockq, row c.waitq, row c.downq, row c.sendq, row c.recvq], .nils]) := by
 refine .of fun v => ?_
 refine aCalls_go Tryz.func29 rfl (by decide) Tryz.ntmps29 (by simp) false ?_
 have hres : Tryz.f29.results = #[.cell 8 30, .tmp 9] := rfl
 repeat' (first|(with_reducible first|refine bt ?_|refine bf ?_|(first|refine bc ?_ ?_|refine gc ?_ ?_|refine pc ?_ ?_)<;>intro _|(refine dr P29 mixed ?_ ?_ ?_;kernel_rfl;kernel_rfl)|refine And.intro ?_ ?_)|simp -implicitDefEqProofs(maxSteps:=2000000)(disch:=first|assumption|omega)[*, ])
 refine aW_for0 (β := Unit) false 0 (fun k q => True) (fun k q => [(10, .nils), (11, .int .i64 k), (21, .any), (22, .any), (23, .any), (24, .any), (25, .any), (26, .any), (27, .any), (28, .any), (29, .any), (32, .any), (33, .any), (12, .any), (34, .any), (35, .any), (36, .any), (38, .any), (39, .any), (37, .any), (40, .any), (41, .any), (13, .any), (14, .any), (42, .any), (44, .any), (45, .any), (46, .any), (47, .any), (48, .any), (49, .any), (43, .any), (50, .any), (51, .any), (15, .any), (16, .any), (52, .any), (54, .any), (55, .any), (56, .any), (57, .any), (58, .any), (59, .any), (60, .any), (61, .any), (62, .any), (63, .any), (64, .any), (65, .any), (66, .any), (53, .any), (67, .any), (68, .any), (69, .any), (70, .any), (17, .any), (18, .any), (19, .any), (20, .any), (71, .any), (72, .any), (73, .any), (74, .any), (30, .any), (31, .any)]) (fun _ q => v) ⟨(), trivial, by (refine Fits.of ?_ (Off.refl _ _); simp [upd_apply, upds_cons]), rfl⟩ ?_
 rintro k _ hk -
 have hke : k = 0 := by omega
 subst hke
 repeat' (first|(with_reducible first|refine bt ?_|refine bf ?_|(first|refine bc ?_ ?_|refine gc ?_ ?_|refine pc ?_ ?_)<;>intro _|(refine dr P29 mixed ?_ ?_ ?_;kernel_rfl;kernel_rfl)|refine And.intro ?_ ?_)|simp -implicitDefEqProofs(maxSteps:=2000000)(disch:=first|assumption|omega)[*, ])
 all_goals exact Ends.eqat rfl (by simp [hu]) (List.prefix_refl _)
end Go.Hb
end

section
namespace Go.Hb
open Go Go.Proofs Go.RowKit
set_option maxRecDepth 100000
set_option maxHeartbeats 800000
attribute [-simp] aC aL aOper aThen aInBlock aIf aPlan aAppend aLen aIndexAddr aSlice aCells aBounds lBr aq initT aev aAppendOwn aAppendNil aAppendNew aAppendRef LV.cells LV.cellsOk getElem?_pos getElem?_neg
theorem fitsC_of {p : Prog} {c : Cor} (h : Inv p (-1) noD c) : fitsC p c = true := by unfold fitsC; rw [fits_of h]; rfl
end Go.Hb
end

section
namespace Go.Hb
open Go Go.Proofs Go.RowKit
set_option maxRecDepth 100000
set_option maxHeartbeats 800000
attribute [-simp] aC aL aOper aThen aInBlock aIf aPlan aAppend aLen aIndexAddr aSlice aCells aBounds lBr aq initT aev aAppendOwn aAppendNil aAppendNew aAppendRef LV.cells LV.cellsOk getElem?_pos getElem?_neg
def g0 : Prog := ⟨[⟨0, []⟩], 0, [], [], [], [], 1⟩
theorem g0_eq : good ⟨[], 0, [], [], [], [], 0⟩ = g0 := by rfl
theorem g0_may : MayP g0 := g0_eq ▸ mayP_iff (good_may ⟨[], 0, [], [], [], [], 0⟩)
def th0 : Thr := ⟨0, 0, [⟨0, 0, []⟩], [], 0⟩
def th1 : Thr := ⟨0, 1, [⟨0, 0, []⟩], [], 0⟩
def c0 : Cor := ⟨0, [th0], [], [], [], [], [], [], [], []⟩
def c1 : Cor := ⟨0, [th1], [], [], [], [], [], [], [], []⟩
theorem c0_eq : coreNew g0 = c0 := by rfl
theorem th0_eq : thrNew g0 0 = th0 := by rfl
theorem c0_inv : Inv g0 (-1) noD c0 := c0_eq ▸ coreNew_inv g0_may
theorem c1_sh : ShC g0 c1 := by
 have h := c0_inv.shC g0_may
 exact ⟨⟨by simp [c1], h.b.owners, h.b.counts, h.b.bufs, h.b.lockq, h.b.waitq, h.b.downq, h.b.sendq, h.b.recvq⟩, ⟨h.len.owners, h.len.counts, h.len.bufs, h.len.lockq, h.len.waitq, h.len.downq, h.len.sendq, h.len.recvq⟩, h.even, h.choices⟩
theorem c1_first : firstC g0 c1 = (0, 0) := by decide +kernel
theorem make0_o {s : List AObj} {v : List Nat} : aCalls Tryz.prog 7 [.agg [.nils, .int .i64 0, .nils, .nils, .nils, .nils, .int .i64 0], .nils, .int .i64 0] s v fun x s' v' => ∃ J d, s ++ J = s' ∧ J[d]? = some (.cells th0.lv) ∧ v <+: v' ∧ x = .agg [.int .i64 3, .int .i64 0, row [(⟨0, []⟩ : Fn_)], .int .i64 0, row ([] : List Int), row ([] : List Int), row ([] : List Int), row ([] : List (List Int)), .int .i64 1, .int .i64 0, .ref 5 (s.length + d) 0 1 true, row ([] : List Int), row ([] : List Int), row ([] : List (List Int)), row ([] : List (List Int)), row ([] : List (List Int)), row ([] : List (List Int)), row ([] : List (List Int)), row ([] : List (List Int))] := by
 have hg := good_ok (p := ⟨[], 0, [], [], [], [], 0⟩) ⟨⟨by simp, by simp⟩, by unfold I64; decide, ⟨by simp, by simp⟩, ⟨by simp, by simp⟩, ⟨by simp, by simp⟩, ⟨by simp, by simp⟩, by unfold I64; decide⟩
 rw [g0_eq] at hg
 have har := around_p (n := 0) (m := 1000) (by unfold I64; decide) (by omega)
 rw [show around 0 1000 = 0 by rfl] at har
 have hwf : Weak .nils (row ([] : List Fn_)) := Weak.nilrow
 have hwi : Weak .nils (row ([] : List Int)) := Weak.nilrow
 have hwr : Weak .nils (row ([] : List (List Int))) := Weak.nilrow
 have hpl : ∀ (s : List AObj) (xt : LV), (xt.cells = [xt] ∧ xt.cellsOk = true) → xt.under s.length = true → Ret Tryz.prog 29 [.agg [row [(⟨0, []⟩ : Fn_)], .int .i64 0, row ([] : List Int), row ([] : List Int), row ([] : List Int), row ([] : List (List Int)), .int .i64 1], .agg [.int .i64 0, xt, row ([] : List Int), row ([] : List Int), row ([] : List (List Int)), row ([] : List (List Int)), row ([] : List (List Int)), row ([] : List (List Int)), row ([] : List (List Int)), row ([] : List (List Int))], .nils, .int .i64 80] s (.tup [.agg [.int .i64 0, xt, row ([] : List Int), row ([] : List Int), row ([] : List (List Int)), row ([] : List (List Int)), row ([] : List (List Int)), row ([] : List (List Int)), row ([] : List (List Int)), row ([] : List (List Int))], .nils]) := fun s xt h1 h2 => play0_r (p := g0) (c := c0) h1 h2
 simp only [Prog.lv, g0] at hg
 refine aCalls_go Tryz.func7 rfl (by decide) Tryz.ntmps7 (by simp) false ?_
 have hres : Tryz.f7.results = #[.cell 6 32] := rfl
 repeat' (first|(with_reducible first|refine bt ?_|refine bf ?_|(first|refine bc ?_ ?_|refine gc ?_ ?_|refine pc ?_ ?_)<;>intro _|(refine dr P7 mixed ?_ ?_ ?_;kernel_rfl;kernel_rfl)|refine And.intro ?_ ?_|refine callWC hg (by simp [hwf, hwi, hwr]) (fun v1 hv1 => ?_))|simp -implicitDefEqProofs(maxSteps:=2000000)(disch:=first|assumption|omega)[*, ])
 all_goals
  refine aCalls_mono (new11_o g0_may) ?_
  rintro _ _ v2 ⟨a0, a1, a2, a3, c, hc, rfl, hv2, rfl⟩
  rw [c0_eq] at hc
  subst hc
  rw [th0_eq]
  simp only [c0]
  repeat' (first|(with_reducible first|refine bt ?_|refine bf ?_|(first|refine bc ?_ ?_|refine gc ?_ ?_|refine pc ?_ ?_)<;>intro _|(refine dr P7 mixed ?_ ?_ ?_;kernel_rfl;kernel_rfl)|refine And.intro ?_ ?_|refine callR (hpl _ _ ⟨rfl, rfl⟩ (by simp)) (fun v3 hv3 => ?_)|refine callE har ?_)|simp -implicitDefEqProofs(maxSteps:=2000000)(disch:=first|assumption|omega)[*, ])
  all_goals first | exact ⟨7, rfl, hv1.trans (hv2.trans hv3), by omega⟩ | exact ⟨6, rfl, hv1.trans (hv2.trans hv3), by omega⟩ | exact ⟨8, rfl, hv1.trans (hv2.trans hv3), by omega⟩
theorem fits0_p : PureC Tryz.prog 14 [.agg [row [(⟨0, []⟩ : Fn_)], .int .i64 0, row ([] : List Int), row ([] : List Int), row ([] : List Int), row ([] : List (List Int)), .int .i64 1], .agg [.int .i64 0, row [th0], row ([] : List Int), row ([] : List Int), row ([] : List (List Int)), row ([] : List (List Int)), row ([] : List (List Int)), row ([] : List (List Int)), row ([] : List (List Int)), row ([] : List (List Int))]] (.bool true) := by
 have h := fits_p (c0_inv.shC g0_may)
 rwa [fitsC_of c0_inv] at h
theorem first1_p : PureC Tryz.prog 12 [.agg [row [(⟨0, []⟩ : Fn_)], .int .i64 0, row ([] : List Int), row ([] : List Int), row ([] : List Int), row ([] : List (List Int)), .int .i64 1], .agg [.int .i64 0, row [th1], row ([] : List Int), row ([] : List Int), row ([] : List (List Int)), row ([] : List (List Int)), row ([] : List (List Int)), row ([] : List (List Int)), row ([] : List (List Int)), row ([] : List (List Int))]] (.tup [.int .i64 0, .int .i64 0]) := by
 have h := first_p c1_sh
 rwa [c1_first] at h
theorem lend0 {f : FuncId} {y : LV} {th : Thr} (h : PureC Tryz.prog f [.agg [row [(⟨0, []⟩ : Fn_)], .int .i64 0, row ([] : List Int), row ([] : List Int), row ([] : List Int), row ([] : List (List Int)), .int .i64 1], .agg [.int .i64 0, row [th], row ([] : List Int), row ([] : List Int), row ([] : List (List Int)), row ([] : List (List Int)), row ([] : List (List Int)), row ([] : List (List Int)), row ([] : List (List Int)), row ([] : List (List Int))]] y) (hf : y.flat = true) {S : List AObj} {id : Nat} (hS : S[id]? = some (.cells th.lv)) :
  Ret Tryz.prog f [.agg [row [(⟨0, []⟩ : Fn_)], .int .i64 0, row ([] : List Int), row ([] : List Int), row ([] : List Int), row ([] : List (List Int)), .int .i64 1], .agg [.int .i64 0, .ref 5 id 0 1 true, row ([] : List Int), row ([] : List Int), row ([] : List (List Int)), row ([] : List (List Int)), row ([] : List (List Int)), row ([] : List (List Int)), row ([] : List (List Int)), row ([] : List (List Int))]] S y :=
 Ret.lend h hf (.cons _ _ _ _ (.keep _ (by simp)) (.cons _ _ _ _ (.agg _ _ (.cons _ _ _ _ (.keep _ rfl) (.cons _ _ _ _ (.ref_row (l := [th]) (Nat.zero_le _) (by rw [hS]; simp [rowCs, Enc.enc, Thr.lv]) (by simp [rowCs, Enc.enc, Thr.lv])) (keepAll _ (by simp))))) .nil))
theorem lives_p : PureC Tryz.prog 9 [] (.bool true) := by
 refine .of fun s v => ?_
 refine aCalls_go Tryz.func9 rfl (by decide) Tryz.ntmps9 (by simp) false ?_
 have hres : Tryz.f9.results = #[.tmp 0] := rfl
 repeat' (first|(with_reducible first|refine bt ?_|refine bf ?_|(first|refine bc ?_ ?_|refine gc ?_ ?_|refine pc ?_ ?_)<;>intro _|refine And.intro ?_ ?_)|simp -implicitDefEqProofs(maxSteps:=2000000)(disch:=first|assumption|omega)[*, ])
 all_goals
  refine aCalls_mono make0_o ?_
  rintro _ _ v1 ⟨J, d, rfl, hJ, hv1, rfl⟩
  have hd := (List.getElem?_eq_some_iff.1 hJ).1
  have hJX : ∀ X, (J ++ X)[d]? = some (.cells th0.lv) := fun X => by rw [List.getElem?_append_left hd]; exact hJ
  have hft : ∀ X, Ret Tryz.prog 14 [.agg [row [(⟨0, []⟩ : Fn_)], .int .i64 0, row ([] : List Int), row ([] : List Int), row ([] : List Int), row ([] : List (List Int)), .int .i64 1], .agg [.int .i64 0, .ref 5 (s.length + d) 0 1 true, row ([] : List Int), row ([] : List Int), row ([] : List (List Int)), row ([] : List (List Int)), row ([] : List (List Int)), row ([] : List (List Int)), row ([] : List (List Int)), row ([] : List (List Int))]] (s ++ (J ++ X)) (.bool true) := fun X => lend0 fits0_p rfl (by rw [get_app]; exact hJX X)
  have hfs : ∀ X, Ret Tryz.prog 12 [.agg [row [(⟨0, []⟩ : Fn_)], .int .i64 0, row ([] : List Int), row ([] : List Int), row ([] : List Int), row ([] : List (List Int)), .int .i64 1], .agg [.int .i64 0, .ref 5 (s.length + d) 0 1 true, row ([] : List Int), row ([] : List Int), row ([] : List (List Int)), row ([] : List (List Int)), row ([] : List (List Int)), row ([] : List (List Int)), row ([] : List (List Int)), row ([] : List (List Int))]] (s ++ (J.set d (.cells [.int .i64 0, .int .i64 1, row [(⟨0, 0, []⟩ : Frm)], row ([] : List Int), .int .i64 0]) ++ X)) (.tup [.int .i64 0, .int .i64 0]) := fun X => lend0 first1_p rfl (by rw [get_app, List.getElem?_append_left (by simpa using hd), List.getElem?_set_self hd]; rfl)
  have hJs : ∀ X o, (J ++ X).set d o = J.set d o ++ X := fun X o => by rw [List.set_append_left _ _ hd]
  have hJl : ∀ o X x, (J.set d o ++ x :: X)[J.length]? = some x := fun o X x => by rw [List.getElem?_append_right (by simp)]; simp
  have hJl2 : ∀ X x, (J ++ x :: X)[J.length]? = some x := fun X x => by rw [List.getElem?_append_right (by simp)]; simp
  simp only [Thr.lv, th0] at hJX
  clear hJ
  repeat' (first|(with_reducible first|refine bt ?_|refine bf ?_|(first|refine bc ?_ ?_|refine gc ?_ ?_|refine pc ?_ ?_)<;>intro _|refine And.intro ?_ ?_|refine callR (hft _) (fun v2 hv2 => ?_)|refine callR (hfs _) (fun v3 hv3 => ?_))|simp -implicitDefEqProofs(maxSteps:=2000000)(disch:=first|assumption|omega)[*, ])
  all_goals exact Ends.eqat rfl rfl (hv1.trans (hv2.trans hv3))
end Go.Hb
end

