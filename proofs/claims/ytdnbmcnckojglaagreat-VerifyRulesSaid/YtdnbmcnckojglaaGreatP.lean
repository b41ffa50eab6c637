/-
  A layer for reasoning about the program's calls, and contracts of its functions (P). CONDITIONS: none; each theorem bears its own.
-/
import Derived.Test.YtdnbmcnckojglaaGreatTy
import Derived.Test.YtdnbmcnckojglaaGreatL7
import Derived.Test.YtdnbmcnckojglaaGreatL5
import Derived.Test.YtdnbmcnckojglaaGreatE
set_option linter.unusedVariables false
set_option linter.unusedSimpArgs false
section
namespace Go.Hb
open Go Go.Proofs Go.RowKit
set_option maxRecDepth 100000
set_option maxHeartbeats 800000
attribute [-simp] aC aL aOper aThen aInBlock aIf aPlan aAppend aLen aIndexAddr aSlice aCells aBounds lBr aq initT aev aAppendOwn aAppendNil aAppendNew aAppendRef LV.cells LV.cellsOk getElem?_pos getElem?_neg
open Go.ChangeShapes Go.WideShapes

def OkIns (i : Ins) : Prop := I64 i.op ∧ I64 i.a
def OkFn (f : Fn_) : Prop := I64 f.locals ∧ (∀ i ∈ f.code, OkIns i) ∧ f.code.length * 8 ≤ 140737488351232
def OkRow {α : Type} (ok : α → Prop) (l : List α) : Prop := (∀ a ∈ l, ok a) ∧ l.length * 8 ≤ 140737488351232
theorem OkRow.of {α : Type} {ok : α → Prop} {l : List α} {b : Nat} (hb : 8 ≤ b) (h : (∀ a ∈ l, ok a) ∧ l.length ≤ maxLen ∧ l.length * b ≤ reachBytes) : OkRow ok l := by
 refine ⟨h.1, ?_⟩
 have h1 := Nat.mul_le_mul_left l.length hb
 have h2 := h.2.2
 have e : reachBytes = 140737488351232 := by decide
 omega
def OkProg (p : Prog) : Prop := OkRow OkFn p.funcs ∧ I64 p.mutexes ∧ OkRow I64 p.conds ∧ OkRow I64 p.semas ∧ OkRow I64 p.chans ∧ OkRow (OkRow I64) p.choices ∧ I64 p.threads
section
variable {H : Type} {enc : TypeId × Value → H} {W : World}
theorem opens_int_ : Opens enc Tryz.prog W 3 I64 (fun n => [.int .i64 n]) := opens_i64 Tryz.underlying3
theorem opens_ins : Opens enc Tryz.prog W 101 OkIns Ins.lv := by
 refine opens_conv (fun p : Int × Int × Unit => (⟨p.1, p.2.1⟩ : Ins)) (opens_struct Tryz.underlying101 (N := 2) (by kernel_rfl)
  (opensFs_cons (m := 1) rfl (by kernel_rfl) opens_int_ (opensFs_cons (m := 1) rfl (by kernel_rfl) opens_int_ (opensFs_nil 2)))) ?_
 rintro ⟨a, b, u⟩ ⟨h1, h2, _⟩
 exact ⟨⟨h1, h2⟩, rfl⟩
theorem opens_code : Opens enc Tryz.prog W 97 (OkRow OkIns) (fun l => [row l]) :=
 opens_conv id (opens_slice Tryz.underlying97 (m := 2) (by kernel_rfl) (by omega) (fun _ _ => rfl) opens_ins) fun l h => ⟨OkRow.of (by decide +kernel) h, rfl⟩
theorem opens_fn : Opens enc Tryz.prog W 99 OkFn Fn_.lv := by
 refine opens_conv (fun p : Int × List Ins × Unit => (⟨p.1, p.2.1⟩ : Fn_)) (opens_struct Tryz.underlying99 (N := 2) (by kernel_rfl)
  (opensFs_cons (m := 1) rfl (by kernel_rfl) opens_int_ (opensFs_cons (m := 1) rfl (by kernel_rfl) opens_code (opensFs_nil 2)))) ?_
 rintro ⟨a, b, u⟩ ⟨h1, h2, _⟩
 exact ⟨⟨h1, h2⟩, rfl⟩
theorem opens_fns : Opens enc Tryz.prog W 22 (OkRow OkFn) (fun l => [row l]) :=
 opens_conv id (opens_slice Tryz.underlying22 (m := 2) (by kernel_rfl) (by omega) (fun _ _ => rfl) opens_fn) fun l h => ⟨OkRow.of (by decide +kernel) h, rfl⟩
theorem opens_row_ : Opens enc Tryz.prog W 23 (OkRow I64) (fun l => [row l]) :=
 opens_conv id (opens_slice Tryz.underlying23 (m := 1) (by kernel_rfl) (by omega) (fun _ _ => rfl) opens_int_) fun l h => ⟨OkRow.of (by decide +kernel) h, rfl⟩
theorem opens_rows_ : Opens enc Tryz.prog W 24 (OkRow (OkRow I64)) (fun l => [row l]) :=
 opens_conv id (opens_slice Tryz.underlying24 (m := 1) (by kernel_rfl) (by omega) (fun _ _ => rfl) opens_row_) fun l h => ⟨OkRow.of (by decide +kernel) h, rfl⟩
theorem opens_prog : Opens enc Tryz.prog W 26 OkProg Prog.lv := by
 refine opens_conv (fun p : List Fn_ × Int × List Int × List Int × List Int × List (List Int) × Int × Unit => (⟨p.1, p.2.1, p.2.2.1, p.2.2.2.1, p.2.2.2.2.1, p.2.2.2.2.2.1, p.2.2.2.2.2.2.1⟩ : Prog)) (opens_struct Tryz.underlying26 (N := 7) (by kernel_rfl)
  (opensFs_cons (m := 1) rfl (by kernel_rfl) opens_fns (opensFs_cons (m := 1) rfl (by kernel_rfl) opens_int_ (opensFs_cons (m := 1) rfl (by kernel_rfl) opens_row_ (opensFs_cons (m := 1) rfl (by kernel_rfl) opens_row_ (opensFs_cons (m := 1) rfl (by kernel_rfl) opens_row_
  (opensFs_cons (m := 1) rfl (by kernel_rfl) opens_rows_ (opensFs_cons (m := 1) rfl (by kernel_rfl) opens_int_ (opensFs_nil 7))))))))) ?_
 rintro ⟨a, b, c, d, e, f, g, u⟩ ⟨h1, h2, h3, h4, h5, h6, h7, _⟩
 exact ⟨⟨h1, h2, h3, h4, h5, h6, h7⟩, rfl⟩
end
end Go.Hb
end

section
namespace Go.Hb
open Go Go.Proofs Go.RowKit
set_option maxRecDepth 100000
set_option maxHeartbeats 800000
attribute [-simp] aC aL aOper aThen aInBlock aIf aPlan aAppend aLen aIndexAddr aSlice aCells aBounds lBr aq initT aev aAppendOwn aAppendNil aAppendNew aAppendRef LV.cells LV.cellsOk getElem?_pos getElem?_neg
theorem good_ok {p : Prog} (h : OkProg p) : PureC Tryz.prog 28 [.agg p.lv] (.agg (good p).lv) := by
 obtain ⟨⟨h1, k1⟩, h2, ⟨h3, k3⟩, ⟨h4, k4⟩, ⟨h5, k5⟩, ⟨h6, k6⟩, h7⟩ := h
 obtain ⟨fs, mu, co, se, ch, cho, th⟩ := p
 simp only at *
 refine good_p (by simp only; omega) (by simp only; omega) (by simp only; omega) (by simp only; omega) (by simp only; omega) (fun l hl => ⟨by have := (h6 l hl).2; omega, (h6 l hl).1⟩) h2 h7 h3 h4 h5 (fun f hf => ?_)
 obtain ⟨a, b, c⟩ := h1 f hf
 exact ⟨a, by omega, b⟩
end Go.Hb
end

