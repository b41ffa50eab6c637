/-
  A layer for reasoning about the program's calls, and contracts of its functions (ZR). CONDITIONS: none; each theorem bears its own.
-/
import Derived.Test.YtcpmmldgimhppaaGreatS
import Derived.Test.YtcpmmldgimhppaaGreatRR
import Derived.Test.YtcpmmldgimhppaaGreatL9
set_option linter.unusedVariables false
set_option linter.unusedSimpArgs false
namespace Go.Hb
open Go Go.Proofs Go.RowKit
set_option maxRecDepth 100000
set_option maxHeartbeats 800000
attribute [-simp] aC aL aOper aThen aInBlock aIf aPlan aAppend aLen aIndexAddr aSlice aCells aBounds lBr aq initT aev aAppendOwn aAppendNil aAppendNew aAppendRef LV.cells LV.cellsOk getElem?_pos getElem?_neg

set_option maxHeartbeats 8000000 in
theorem lawRound_p {p : Prog} (h : OkProg p) : PureC Tryz.prog 4 [.agg p.lv] (.bool true) := by
  have hg := good_ok h
  have hmay := good_may p
  obtain ⟨g, hge⟩ : ∃ g, good p = g := ⟨_, rfl⟩
  rw [hge] at hg hmay
  clear hge
  obtain ⟨fs, mu, co, se, ch, cho, th⟩ := g
  have hokg := ok_of_may hmay
  have hm := may_ok hokg
  rw [hmay] at hm
  have hw := cwrite_p hm hmay
  have hbl := writeP_le hmay
  have hrd := cread_p (b := writeP ⟨fs, mu, co, se, ch, cho, th⟩) (by omega)
  rw [read_write hmay] at hrd
  have hrw := (rwrite_f hmay).pure
  have hsm := same1_p (a := writeP ⟨fs, mu, co, se, ch, cho, th⟩) (b := writeP ⟨fs, mu, co, se, ch, cho, th⟩) (by omega)
  simp only [decide_true] at hsm
  obtain ⟨l0, l1, l2, l3, l4, l5, l6, l7⟩ := may_lens hmay
  have hcl := cclone_p (mu := mu) (th := th) (co := co) (se := se) (ch := ch) (cho := cho) l0 (by omega) (fun k hk => by have := l7 k hk; omega) (by omega) (by omega) (by omega) (by omega) (fun k hk => by have := l6 k hk; omega)
  have hs1 := rsame_p (fs' := fs) (mu' := mu) (th' := th) (co' := co) (se' := se) (ch' := ch) (cho' := cho) hokg
  have hs2 := csame_p (fs' := fs) (mu' := mu) (th' := th) (co' := co) (se' := se) (ch' := ch) (cho' := cho) hokg
  simp only [decide_true] at hs1 hs2
  generalize writeP ⟨fs, mu, co, se, ch, cho, th⟩ = bs at *
  simp only [Prog.lv] at hg hrd hm hw ⊢
  clear l0 l1 l2 l3 l4 l5 l6 l7 hokg hmay hm
  refine .of fun s v => ?_
  refine aCalls_go Tryz.func4 rfl (by decide) Tryz.ntmps4 (by simp) false ?_
  have hres : Tryz.f4.results = #[.tmp 2] := rfl
  repeat' (first | with_reducible refine br_t ?_ | with_reducible refine br_f ?_ | with_reducible refine br_dec (fun _ => ?_) (fun _ => ?_) | with_reducible refine g_dec (fun _ => ?_) (fun _ => ?_) | with_reducible refine g_ndec (fun _ => ?_) (fun _ => ?_) | with_reducible refine br_not (fun _ => ?_) (fun _ => ?_) | with_reducible refine br_split (fun _ => ?_) (fun _ => ?_) | with_reducible refine g_not (fun _ => ?_) (fun _ => ?_) | with_reducible refine g_split (fun _ => ?_) (fun _ => ?_) | with_reducible refine px_dec (fun _ => ?_) (fun _ => ?_) | with_reducible refine px_ndec (fun _ => ?_) (fun _ => ?_) | with_reducible refine px_split (fun _ => ?_) (fun _ => ?_) | with_reducible refine callC hg (fun v1 hv1 => ?_) | with_reducible refine callC hw (fun v2 hv2 => ?_) | with_reducible refine callC hrd (fun v3 hv3 => ?_) | with_reducible refine callC hcl (fun v4 hv4 => ?_) | with_reducible refine callE hs1 ?_ | with_reducible refine callE hs2 ?_ | with_reducible refine callC hrw (fun v5 hv5 => ?_) | with_reducible refine callE hsm ?_ | with_reducible refine callC lives_p (fun v6 hv6 => ?_) | simp -implicitDefEqProofs (maxSteps := 2000000) (disch := first | assumption | omega) [*, ])
  exact Ends.eqat rfl rfl (((((hv1.trans hv2).trans hv3).trans hv4).trans hv5).trans hv6)
end Go.Hb
