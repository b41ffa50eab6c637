/-
  A layer for reasoning about the program's calls, and contracts of its functions (Y). CONDITIONS: none; each theorem bears its own.
-/
import Derived.Test.YtcpmmldgimhppaaGreatX
import Derived.Test.YtcpmmldgimhppaaGreatR
import Derived.Test.YtcpmmldgimhppaaGreatP
import Derived.Test.YtcpmmldgimhppaaGreatN
import Derived.Test.YtcpmmldgimhppaaGreatL8
set_option linter.unusedVariables false
set_option linter.unusedSimpArgs false
namespace Go.Hb
open Go Go.Proofs Go.RowKit
set_option maxRecDepth 100000
set_option maxHeartbeats 800000
attribute [-simp] aC aL aOper aThen aInBlock aIf aPlan aAppend aLen aIndexAddr aSlice aCells aBounds lBr aq initT aev aAppendOwn aAppendNil aAppendNew aAppendRef LV.cells LV.cellsOk getElem?_pos getElem?_neg

theorem may_ok {p : Prog} (h : OkProg p) : PureC Tryz.prog 28 [.agg p.lv] (.bool (mayP p)) := by
  obtain ⟨⟨h1, k1⟩, h2, ⟨h3, k3⟩, ⟨h4, k4⟩, ⟨h5, k5⟩, ⟨h6, k6⟩, h7⟩ := h
  obtain ⟨fs, mu, co, se, ch, cho, th⟩ := p
  simp only at *
  refine cmay_p (by simp only; omega) (by simp only; omega) (by simp only; omega) (by simp only; omega) (by simp only; omega) h2 fun hc k hk => ?_
  have := (h6 (nth cho k) (by rw [nth_eq hk]; exact List.getElem_mem hk)).2
  exact cchoice_p (by unfold maxLen; simp only; omega) (by simp only; omega) hc
theorem rmay_ok {p : Prog} (h : OkProg p) : PureE Tryz.prog 33 [.agg p.lv] (.bool (mayP p)) := by
  obtain ⟨⟨h1, k1⟩, h2, ⟨h3, k3⟩, ⟨h4, k4⟩, ⟨h5, k5⟩, ⟨h6, k6⟩, h7⟩ := h
  obtain ⟨fs, mu, co, se, ch, cho, th⟩ := p
  simp only at *
  exact refMay_p (by simp only; omega) (by simp only; omega) (by simp only; omega) (by simp only; omega) (by simp only; omega) (fun l hl => by have := (h6 l hl).2; omega) h2
theorem cwrite_no {fs : List Fn_} {mu th : Int} {co se ch : List Int} {cho : List (List Int)} (hm : PureC Tryz.prog 28 [.agg [row fs, .int .i64 mu, row co, row se, row ch, row cho, .int .i64 th]] (.bool false)) :
    PureC Tryz.prog 12 [.agg [row fs, .int .i64 mu, row co, row se, row ch, row cho, .int .i64 th]] (.tup [.nils, .int .i64 1]) := by
  refine .of fun s v => ?_
  refine aCalls_go Tryz.func12 rfl (by decide) Tryz.ntmps12 (by simp) false ?_
  have hres : Tryz.f12.results = #[.tmp 2, .tmp 3] := rfl
  repeat' (first | with_reducible refine br_t ?_ | with_reducible refine br_f ?_ | with_reducible refine br_dec (fun _ => ?_) (fun _ => ?_) | with_reducible refine g_dec (fun _ => ?_) (fun _ => ?_) | with_reducible refine g_ndec (fun _ => ?_) (fun _ => ?_) | with_reducible refine br_not (fun _ => ?_) (fun _ => ?_) | with_reducible refine br_split (fun _ => ?_) (fun _ => ?_) | with_reducible refine g_not (fun _ => ?_) (fun _ => ?_) | with_reducible refine g_split (fun _ => ?_) (fun _ => ?_) | with_reducible refine px_dec (fun _ => ?_) (fun _ => ?_) | with_reducible refine px_ndec (fun _ => ?_) (fun _ => ?_) | with_reducible refine px_split (fun _ => ?_) (fun _ => ?_) | with_reducible refine callC hm (fun v1 hv1 => ?_) | simp -implicitDefEqProofs (maxSteps := 2000000) (disch := first | assumption | omega) [*, ])
  exact Ends.eqat rfl (by simp) hv1
theorem allTo_i64 {l : List Int} {to : Int} (h : allTo l to = true) (ht : to ≤ 1000) : ∀ x ∈ l, I64 x := by
  unfold allTo at h
  rw [List.all_eq_true] at h
  intro x hx
  have := h x hx
  simp only [Bool.and_eq_true, decide_eq_true_eq] at this
  constructor <;> omega
theorem ok_of_may {p : Prog} (h : mayP p = true) : OkProg p := by
  obtain ⟨fs, mu, co, se, ch, cho, th⟩ := p
  unfold mayP at h
  simp only [Bool.and_eq_true, decide_eq_true_eq] at h
  obtain ⟨⟨⟨⟨⟨⟨⟨⟨⟨⟨⟨⟨⟨⟨p1, p2⟩, p3⟩, p4⟩, p5⟩, p6⟩, p7⟩, p8⟩, p9⟩, p10⟩, p11⟩, p12⟩, p13⟩, p14⟩, p15⟩ := h
  show OkRow OkFn fs ∧ I64 mu ∧ OkRow I64 co ∧ OkRow I64 se ∧ OkRow I64 ch ∧ OkRow (OkRow I64) cho ∧ I64 th
  refine ⟨⟨fun f hf => ?_, by omega⟩, ⟨by omega, by omega⟩, ⟨allTo_i64 p11 (by omega), by omega⟩, ⟨allTo_i64 p12 (by omega), by omega⟩, ⟨allTo_i64 p13 (by omega), by omega⟩, ⟨fun l hl => ?_, by omega⟩, ⟨by omega, by omega⟩⟩
  · have := List.all_eq_true.1 p15 f hf
    unfold mayF at this
    simp only [Bool.and_eq_true, decide_eq_true_eq] at this
    obtain ⟨⟨⟨q1, q2⟩, q3⟩, q4⟩ := this
    refine ⟨⟨by omega, by omega⟩, fun i hi => ?_, by omega⟩
    have q5 := List.all_eq_true.1 q4 i hi
    unfold mayI at q5
    simp only [Bool.and_eq_true, decide_eq_true_eq] at q5
    obtain ⟨⟨r1, r2⟩, r3⟩ := q5
    refine ⟨⟨by omega, by omega⟩, ?_⟩
    have hmost : most ⟨fs, mu, co, se, ch, cho, th⟩ f i.op ≤ 1073741825 := by
      unfold most mostL
      repeat' split
      all_goals ((try simp only); omega)
    split at r3
    · split at r3
      · simp at r3; constructor <;> omega
      · simp at r3; constructor <;> omega
    · simp at r3; constructor <;> omega
  · have := List.all_eq_true.1 p14 l hl
    unfold mayCh at this
    simp only [Bool.and_eq_true, decide_eq_true_eq] at this
    obtain ⟨⟨⟨q1, q2⟩, q3⟩, q4⟩ := this
    exact ⟨allTo_i64 q1 (by omega), by omega⟩
theorem flat_le {α β : Type} {f : α → List β} {n : Nat} : ∀ {l : List α}, (∀ x ∈ l, (f x).length ≤ n) → (l.flatMap f).length ≤ l.length * n
  | [], _ => by simp
  | x :: l, h => by
    have h1 := h x (by simp)
    have h2 := flat_le (f := f) (n := n) (l := l) fun y hy => h y (by simp [hy])
    rw [List.flatMap_cons, List.length_append, List.length_cons, Nat.add_mul]
    omega
theorem flat_le2 {α β : Type} {f : α → List β} {n m : Nat} {l : List α} (h : ∀ x ∈ l, (f x).length ≤ n) (hl : l.length ≤ m) : (l.flatMap f).length ≤ m * n := Nat.le_trans (flat_le h) (Nat.mul_le_mul_right n hl)
theorem writeP_le {p : Prog} (h : mayP p = true) : (writeP p).length ≤ 20000 := by
  obtain ⟨fs, mu, co, se, ch, cho, th⟩ := p
  obtain ⟨q1, q2, q3, q4, q5, q6, q7, q8, q9, q10, q11, q12, q13, q14⟩ := mayP_facts h
  have hl : ∀ l : List Int, l.length ≤ 8 → (∀ k < l.length, nth l k ≤ 9223372036854775807) → (listB l).length ≤ 81 := fun l h1 h2 => by
    have := listB_le h2 (by omega)
    omega
  have h1 : (fs.flatMap fnB).length ≤ 16 * 658 := flat_le2 (fun f hf => by
    obtain ⟨k, hk, rfl⟩ := List.getElem_of_mem hf
    have a1 := q13 k hk
    have a2 := q14 k hk
    rw [nth_eq hk] at a1 a2
    have b1 := shortB_le (n := fs[k].locals) (by omega)
    have b2 := shortB_le (n := fs[k].code.length) (by omega)
    have b3 : (fs[k].code.flatMap insB).length ≤ 64 * 10 := flat_le2 (fun i _ => by have := signedB_le (n := i.a); simp only [insB, List.length_cons]; omega) a2
    simp only [fnB, List.length_append]; omega) q1
  have h2 : (cho.flatMap listB).length ≤ 8 * 81 := flat_le2 (fun l hl' => by
    obtain ⟨k, hk, rfl⟩ := List.getElem_of_mem hl'
    have a1 := q11 k hk
    have a2 := q12 k hk
    rw [nth_eq hk] at a1 a2
    exact hl _ a1 a2) q6
  have h3 := hl co q3 q8
  have h4 := hl se q4 q9
  have h5 := hl ch q5 q10
  have h6 := shortB_le (n := fs.length) (by omega)
  have h7 := shortB_le (n := mu) (by omega)
  have h8 := shortB_le (n := th) (by omega)
  have h9 := shortB_le (n := cho.length) (by omega)
  simp only [writeP, List.length_append]
  omega
theorem may_lens {fs : List Fn_} {mu th : Int} {co se ch : List Int} {cho : List (List Int)} (hp : mayP ⟨fs, mu, co, se, ch, cho, th⟩ = true) : fs ≠ [] ∧ fs.length ≤ 16 ∧ co.length ≤ 8 ∧ se.length ≤ 8 ∧ ch.length ≤ 8 ∧ cho.length ≤ 8 ∧ (∀ k < cho.length, (nth cho k).length ≤ 8) ∧ (∀ k < fs.length, (nth fs k).code.length ≤ 64) := by
  obtain ⟨q1, q2, q3, q4, q5, q6, q7, q8, q9, q10, q11, q12, q13, q14⟩ := mayP_facts hp
  refine ⟨?_, q1, q3, q4, q5, q6, q11, q14⟩
  rintro rfl
  unfold mayP at hp
  simp at hp
end Go.Hb
