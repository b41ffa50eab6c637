/-
  A layer for reasoning about the program's calls, and contracts of its functions (NH). CONDITIONS: none; each theorem bears its own.
-/
import Derived.Test.YtdnbmcnckojglaaNG
import Derived.Test.YtdnbmcnckojglaaP
set_option linter.unusedVariables false
set_option linter.unusedSimpArgs false
namespace Go.Hb
open Go Go.Proofs Go.RowKit
set_option maxRecDepth 100000
set_option maxHeartbeats 800000
attribute [-simp] aC aL aOper aThen aInBlock aIf aPlan aAppend aLen aIndexAddr aSlice aCells aBounds lBr aq initT aev aAppendOwn aAppendNil aAppendNew aAppendRef LV.cells LV.cellsOk getElem?_pos getElem?_neg
def stepsC (g : Prog) (l : List Int) (k : Nat) : Cor := (l.take k).foldl (fun c x => (playC g c [x]).1) (coreNew g)
theorem stepsC_succ (g : Prog) {l : List Int} {k : Nat} (h : k < l.length) : stepsC g l (k + 1) = (playC g (stepsC g l k) [nth l k]).1 := by
  unfold stepsC; rw [take_succ_nth h, List.foldl_append]; rfl
theorem stepsC_inv {g : Prog} (hp : MayP g) (l : List Int) : ∀ k, k ≤ l.length → Inv g (-1) noD (stepsC g l k)
  | 0, _ => coreNew_inv hp
  | k + 1, h => by rw [stepsC_succ g (by omega)]; exact playC_inv hp (stepsC_inv hp l k (by omega)) _
theorem fitsC_of {p : Prog} {c : Cor} (h : Inv p (-1) noD c) : fitsC p c = true := by unfold fitsC; rw [fits_of h]; rfl
end Go.Hb
