/-
  A layer for reasoning about the program's calls, and contracts of its functions (PB). CONDITIONS: none; each theorem bears its own.
-/
import Derived.Test.YtcpmmldgimhppaaGreatP
set_option linter.unusedVariables false
set_option linter.unusedSimpArgs false
namespace Go.Hb
open Go Go.Proofs Go.RowKit
set_option maxRecDepth 100000
set_option maxHeartbeats 800000
attribute [-simp] aC aL aOper aThen aInBlock aIf aPlan aAppend aLen aIndexAddr aSlice aCells aBounds lBr aq initT aev aAppendOwn aAppendNil aAppendNew aAppendRef LV.cells LV.cellsOk getElem?_pos getElem?_neg
open Go.ChangeShapes Go.WideShapes
section
variable {H : Type} {enc : TypeId × Value → H} {W : World}
theorem opens_u8_ : Opens enc Tryz.prog W 5 (fun _ : UInt8 => True) (fun c => [.int .u8 (c.toNat : Int)]) := by
  refine opens_conv (fun n : Int => UInt8.ofNat n.toNat) (opens_int Tryz.underlying5) fun n h => ⟨trivial, ?_⟩
  have : 0 ≤ n ∧ n ≤ 255 := by simpa [Lit.wf, IntKind.min, IntKind.max, IntKind.signed, IntKind.bits] using h
  have e : ((UInt8.ofNat n.toNat).toNat : Int) = n := by simp; omega
  rw [e]
theorem opens_bytes_ : Opens enc Tryz.prog W 22 OkBytes (fun l => [row l]) :=
  opens_conv id (opens_slice Tryz.underlying22 (m := 1) (by kernel_rfl) (by omega) (fun _ _ => rfl) opens_u8_) fun l h => ⟨by
    have h2 := h.2.2
    have e1 : Tryz.prog.bytesOf 5 = 1 := by decide +kernel
    have e2 : reachBytes = 140737488351232 := by decide
    rw [e1, e2, Nat.mul_one] at h2
    exact h2, rfl⟩
end
end Go.Hb
