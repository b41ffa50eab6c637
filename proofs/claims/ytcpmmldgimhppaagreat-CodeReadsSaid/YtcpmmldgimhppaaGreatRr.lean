/-
  A layer for reasoning about the program's calls, and contracts of its functions (Rr). CONDITIONS: none; each theorem bears its own.
-/
import Derived.Test.YtcpmmldgimhppaaGreatX
import Derived.Test.YtcpmmldgimhppaaGreatL9
import Derived.Test.YtcpmmldgimhppaaGreatRR
set_option linter.unusedVariables false
set_option linter.unusedSimpArgs false
section
namespace Go.Hb
open Go Go.Proofs Go.RowKit
set_option maxRecDepth 100000
set_option maxHeartbeats 800000
attribute [-simp] aC aL aOper aThen aInBlock aIf aPlan aAppend aLen aIndexAddr aSlice aCells aBounds lBr aq initT aev aAppendOwn aAppendNil aAppendNew aAppendRef LV.cells LV.cellsOk getElem?_pos getElem?_neg

theorem left_p {b : List UInt8} {r : RS} (h : r.at_ ≤ b.length) : PureE Tryz.prog 71 [.agg (rdO b r)] (row (b.drop r.at_)) := by
  refine .of fun s v => ?_
  unfold rdO
  refine aCalls_go Tryz.func71 rfl (by decide) Tryz.ntmps71 (by simp) false ?_
  have hres : Tryz.f71.results = #[.tmp 2] := rfl
  repeat' (first | with_reducible refine br_t ?_ | with_reducible refine br_f ?_ | with_reducible refine br_dec (fun _ => ?_) (fun _ => ?_) | with_reducible refine g_dec (fun _ => ?_) (fun _ => ?_) | with_reducible refine g_ndec (fun _ => ?_) (fun _ => ?_) | with_reducible refine br_not (fun _ => ?_) (fun _ => ?_) | with_reducible refine br_split (fun _ => ?_) (fun _ => ?_) | with_reducible refine g_not (fun _ => ?_) (fun _ => ?_) | with_reducible refine g_split (fun _ => ?_) (fun _ => ?_) | with_reducible refine px_dec (fun _ => ?_) (fun _ => ?_) | with_reducible refine px_ndec (fun _ => ?_) (fun _ => ?_) | with_reducible refine px_split (fun _ => ?_) (fun _ => ?_) | simp -implicitDefEqProofs (maxSteps := 2000000) (disch := first | assumption | omega) [*, ])
  exact EndsE.eqat rfl (by simp)
theorem fail_p {b : List UInt8} {a : Nat} {e0 e : Int} : PureE Tryz.prog 70 [.agg [row b, .int .i64 a, .int .i64 e0], .int .i64 e] (.agg (rdO b ⟨a, e⟩)) := by
  refine .of fun s v => ?_
  unfold rdO
  refine aCalls_go Tryz.func70 rfl (by decide) Tryz.ntmps70 (by simp) false ?_
  have hres : Tryz.f70.results = #[.cell 4 60] := rfl
  repeat' (first | with_reducible refine br_t ?_ | with_reducible refine br_f ?_ | with_reducible refine br_dec (fun _ => ?_) (fun _ => ?_) | with_reducible refine g_dec (fun _ => ?_) (fun _ => ?_) | with_reducible refine g_ndec (fun _ => ?_) (fun _ => ?_) | with_reducible refine br_not (fun _ => ?_) (fun _ => ?_) | with_reducible refine br_split (fun _ => ?_) (fun _ => ?_) | with_reducible refine g_not (fun _ => ?_) (fun _ => ?_) | with_reducible refine g_split (fun _ => ?_) (fun _ => ?_) | with_reducible refine px_dec (fun _ => ?_) (fun _ => ?_) | with_reducible refine px_ndec (fun _ => ?_) (fun _ => ?_) | with_reducible refine px_split (fun _ => ?_) (fun _ => ?_) | simp -implicitDefEqProofs (maxSteps := 2000000) (disch := first | assumption | omega) [*, ])
  exact EndsE.eqat rfl (by simp)
set_option maxHeartbeats 8000000 in
theorem readShort_p {b : List UInt8} {r : RS} (hr : ROk b r) (hb : b.length ≤ 4611686018427387904) : PureC Tryz.prog 31 [.agg (rdO b r)] (.tup [.agg (rdO b (rdShort b r).1), .int .i64 (rdShort b r).2]) := by
  obtain ⟨a, e⟩ := r
  have hle := hr.1
  simp only at hle
  refine .of fun s v => ?_
  by_cases he : e = 0
  · subst he
    have hleft := left_p (b := b) (r := ⟨a, 0⟩) hle
    have hf := fun e => fail_p (b := b) (a := a) (e0 := 0) (e := e)
    have hx : sc b ⟨a, 0⟩ = scan (b.drop a) 0 0 := rfl
    have hal : a + (b.drop a).length = b.length := by rw [List.length_drop]; omega
    simp only at hleft
    generalize b.drop a = l at *
    have hlb : l.length ≤ 4611686018427387904 := by omega
    unfold rdO at hleft hf ⊢
    simp only at hleft hf ⊢
    refine aCalls_go Tryz.func31 rfl (by decide) Tryz.ntmps31 (by simp) false ?_
    have hres : Tryz.f31.results = #[.cell 2 60, .tmp 3] := rfl
    repeat' (first | with_reducible refine br_t ?_ | with_reducible refine br_f ?_ | with_reducible refine br_dec (fun _ => ?_) (fun _ => ?_) | with_reducible refine g_dec (fun _ => ?_) (fun _ => ?_) | with_reducible refine g_ndec (fun _ => ?_) (fun _ => ?_) | with_reducible refine br_not (fun _ => ?_) (fun _ => ?_) | with_reducible refine br_split (fun _ => ?_) (fun _ => ?_) | with_reducible refine g_not (fun _ => ?_) (fun _ => ?_) | with_reducible refine g_split (fun _ => ?_) (fun _ => ?_) | with_reducible refine px_dec (fun _ => ?_) (fun _ => ?_) | with_reducible refine px_ndec (fun _ => ?_) (fun _ => ?_) | with_reducible refine px_split (fun _ => ?_) (fun _ => ?_) | with_reducible refine callE hleft ?_ | simp -implicitDefEqProofs (maxSteps := 2000000) (disch := first | assumption | omega) [*, ])
    refine aW_for (β := Unit) false 9 (fun k _ => k ≤ l.length ∧ ∀ i < k, 128 ≤ (nth l i).toNat) (fun k _ => [(5, .int .i64 k), (14, .any), (15, .any), (16, .any), (17, .any), (18, .any), (19, .any), (20, .any), (21, .any), (22, .any), (23, .any), (24, .any), (25, .any), (26, .any), (27, .any), (28, .any), (29, .any), (30, .any)]) (fun _ _ => s ++ [.cells [row b, .int .i64 a, .int .i64 0], .cells [.nils, .int .i64 0, .int .i64 0]]) (fun _ _ => v) ?_ ?_
    · exact ⟨(), ⟨Nat.zero_le _, fun i hi => absurd hi (by omega)⟩, by (refine Fits.of ?_ (Off.refl _ _); simp [upd_apply, upds_cons]), rfl, rfl⟩
    rintro k _ hk ⟨hkl, hI⟩
    by_cases h9 : k = 9
    · subst h9
      rw [scan_nine hkl hI] at hx
      rw [rdShort_err hx (by simp)]
      clear hI
      have hz1 : (9 : Int) ≤ l.length := by omega
      repeat' (first | with_reducible refine br_t ?_ | with_reducible refine br_f ?_ | with_reducible refine br_dec (fun _ => ?_) (fun _ => ?_) | with_reducible refine g_dec (fun _ => ?_) (fun _ => ?_) | with_reducible refine g_ndec (fun _ => ?_) (fun _ => ?_) | with_reducible refine br_not (fun _ => ?_) (fun _ => ?_) | with_reducible refine br_split (fun _ => ?_) (fun _ => ?_) | with_reducible refine g_not (fun _ => ?_) (fun _ => ?_) | with_reducible refine g_split (fun _ => ?_) (fun _ => ?_) | with_reducible refine px_dec (fun _ => ?_) (fun _ => ?_) | with_reducible refine px_ndec (fun _ => ?_) (fun _ => ?_) | with_reducible refine px_split (fun _ => ?_) (fun _ => ?_) | with_reducible refine callE (hf _) ?_ | simp -implicitDefEqProofs (maxSteps := 2000000) (disch := first | assumption | omega) [*, ])
      all_goals exact Ends.eqat rfl (by simp) (List.prefix_refl _)
    by_cases hl : k = l.length
    · subst hl
      rw [scan_end (by omega) hI] at hx
      rw [rdShort_err hx (by simp)]
      clear hI
      have hz1 : ¬ ((l.length : Int) = 9) := by omega
      repeat' (first | with_reducible refine br_t ?_ | with_reducible refine br_f ?_ | with_reducible refine br_dec (fun _ => ?_) (fun _ => ?_) | with_reducible refine g_dec (fun _ => ?_) (fun _ => ?_) | with_reducible refine g_ndec (fun _ => ?_) (fun _ => ?_) | with_reducible refine br_not (fun _ => ?_) (fun _ => ?_) | with_reducible refine br_split (fun _ => ?_) (fun _ => ?_) | with_reducible refine g_not (fun _ => ?_) (fun _ => ?_) | with_reducible refine g_split (fun _ => ?_) (fun _ => ?_) | with_reducible refine px_dec (fun _ => ?_) (fun _ => ?_) | with_reducible refine px_ndec (fun _ => ?_) (fun _ => ?_) | with_reducible refine px_split (fun _ => ?_) (fun _ => ?_) | with_reducible refine callE (hf _) ?_ | simp -implicitDefEqProofs (maxSteps := 2000000) (disch := first | assumption | omega) [*, ])
      all_goals exact Ends.eqat rfl (by simp) (List.prefix_refl _)
    have hk9 : k < 9 := by omega
    have hkl' : k < l.length := by omega
    obtain ⟨c, hc⟩ : ∃ c : UInt8, nth l k = c := ⟨_, rfl⟩
    have hz1 : (k : Int) < 9 := by omega
    have hz2 : (k : Int) < l.length := by omega
    have hz3 : ¬ ((k : Int) = 9) := by omega
    have hz4 : ¬ ((k : Int) = l.length) := by omega
    by_cases h1 : 128 ≤ (nth l k).toNat
    · have hI' : ∀ i < k + 1, 128 ≤ (nth l i).toNat := fun i hi => by
        by_cases e : i = k
        · subst e; exact h1
        · exact hI i (by omega)
      clear hI
      rw [hc] at h1
      have hz5 : (128 : Int) ≤ c.toNat := by omega
      repeat' (first | with_reducible refine br_t ?_ | with_reducible refine br_f ?_ | with_reducible refine br_dec (fun _ => ?_) (fun _ => ?_) | with_reducible refine g_dec (fun _ => ?_) (fun _ => ?_) | with_reducible refine g_ndec (fun _ => ?_) (fun _ => ?_) | with_reducible refine br_not (fun _ => ?_) (fun _ => ?_) | with_reducible refine br_split (fun _ => ?_) (fun _ => ?_) | with_reducible refine g_not (fun _ => ?_) (fun _ => ?_) | with_reducible refine g_split (fun _ => ?_) (fun _ => ?_) | with_reducible refine px_dec (fun _ => ?_) (fun _ => ?_) | with_reducible refine px_ndec (fun _ => ?_) (fun _ => ?_) | with_reducible refine px_split (fun _ => ?_) (fun _ => ?_) | simp -implicitDefEqProofs (maxSteps := 2000000) (disch := first | assumption | omega) [*, ])
      exact ⟨hk9, (), ⟨by omega, hI'⟩, by (refine Fits.of ?_ ?_; rotate_left; (repeat (first | with_reducible exact Off.refl _ _ | refine Off.upd rfl ?_ | refine Off.updO rfl ?_ | refine Off.upds rfl ?_)); simp [upd_apply, upds_cons]), rfl, rfl⟩
    · have hs := scan_at hk9 hkl' hI h1
      rw [hc] at h1
      clear hI
      have hz5 : ¬ ((128 : Int) ≤ c.toNat) := by omega
      repeat' (first | with_reducible refine br_t ?_ | with_reducible refine br_f ?_ | with_reducible refine br_dec (fun _ => ?_) (fun _ => ?_) | with_reducible refine g_dec (fun _ => ?_) (fun _ => ?_) | with_reducible refine g_ndec (fun _ => ?_) (fun _ => ?_) | with_reducible refine br_not (fun _ => ?_) (fun _ => ?_) | with_reducible refine br_split (fun _ => ?_) (fun _ => ?_) | with_reducible refine g_not (fun _ => ?_) (fun _ => ?_) | with_reducible refine g_split (fun _ => ?_) (fun _ => ?_) | with_reducible refine px_dec (fun _ => ?_) (fun _ => ?_) | with_reducible refine px_ndec (fun _ => ?_) (fun _ => ?_) | with_reducible refine px_split (fun _ => ?_) (fun _ => ?_) | simp -implicitDefEqProofs (maxSteps := 2000000) (disch := first | assumption | omega) [*, ])
      have hlt9 : ∀ m, m ≤ k + 1 → sv l k m < 9223372036854775808 := fun m hm => by
        have h1 := sv_lt l k m
        have h2 : 128 ^ m ≤ 128 ^ 9 := Nat.pow_le_pow_right (by omega) (by omega)
        have e : (128 : Nat) ^ 9 = 9223372036854775808 := by decide
        omega
      refine aW_for (β := Unit) false (k + 1) (fun _ _ => True) (fun m _ => [(7, .int .i64 ((k : Int) - m)), (6, .int .i64 (sv l k m : Int)), (42, .any), (43, .any), (46, .any), (47, .any), (48, .any), (49, .any), (50, .any), (51, .any), (52, .any), (53, .any), (54, .any), (44, .any), (45, .any)]) (fun _ _ => s ++ [.cells [row b, .int .i64 a, .int .i64 0], .cells [.nils, .int .i64 0, .int .i64 0]]) (fun _ _ => v) ?_ ?_
      · exact ⟨(), trivial, by (refine Fits.of ?_ (Off.refl _ _); simp [upd_apply, upds_cons, sv]), rfl, rfl⟩
      rintro m _ hm _
      clear hc hz5 h1
      by_cases hmk : m ≤ k
      · obtain ⟨c, hc⟩ : ∃ c : UInt8, nth l (k - m) = c := ⟨_, rfl⟩
        have hix : ix l ((k : Int) - m) = some (.eptr [.int .u8 (c.toNat : Int)]) := by
          rw [ix_in (by omega) (by omega), show ((k : Int) - m).toNat = k - m by omega, hc]; rfl
        have hc2 := c.toNat_lt
        have hsv : sv l k (m + 1) = 128 * sv l k m + c.toNat % 128 := by simp only [sv, hc]
        have hl1 := hlt9 (m + 1) (by omega)
        have hmod : (c.toNat : Int).tmod 128 = ((c.toNat % 128 : Nat) : Int) := by rw [Int.tmod_eq_emod_of_nonneg (by omega)]; omega
        rw [hsv] at hl1
        have hd : c.toNat % 128 < 128 := by omega
        have hq1 : (0 : Int) ≤ (k : Int) - m := by omega
        have hq2 : (k : Int) - m - 1 = (k : Int) - ((m : Int) + 1) := by omega
        generalize sv l k m = w at *
        generalize c.toNat % 128 = d at *
        have hwr : IntKind.u8.wrap (d : Int) = d := by simp [IntKind.wrap, IntKind.signed, IntKind.bits]; omega
        have hsv2 : ((sv l k (m + 1) : Nat) : Int) = 128 * (w : Int) + d := by omega
        clear hs hx hlt9 hsv
        repeat' (first | with_reducible refine br_t ?_ | with_reducible refine br_f ?_ | with_reducible refine br_dec (fun _ => ?_) (fun _ => ?_) | with_reducible refine g_dec (fun _ => ?_) (fun _ => ?_) | with_reducible refine g_ndec (fun _ => ?_) (fun _ => ?_) | with_reducible refine br_not (fun _ => ?_) (fun _ => ?_) | with_reducible refine br_split (fun _ => ?_) (fun _ => ?_) | with_reducible refine g_not (fun _ => ?_) (fun _ => ?_) | with_reducible refine g_split (fun _ => ?_) (fun _ => ?_) | with_reducible refine px_dec (fun _ => ?_) (fun _ => ?_) | with_reducible refine px_ndec (fun _ => ?_) (fun _ => ?_) | with_reducible refine px_split (fun _ => ?_) (fun _ => ?_) | simp -implicitDefEqProofs (maxSteps := 2000000) (disch := first | assumption | omega) [*, ])
        all_goals first | (exfalso; omega) | exact ⟨by omega, (), trivial, by (refine Fits.of ?_ ?_; rotate_left; (repeat (first | with_reducible exact Off.refl _ _ | refine Off.upd rfl ?_ | refine Off.updO rfl ?_ | refine Off.upds rfl ?_)); first | (simp [upd_apply, upds_cons]; done) | (simp [upd_apply, upds_cons, *, ]; done) | (simp [upd_apply, upds_cons, *, ]; omega) | simp [upd_apply, upds_cons]), rfl, rfl⟩
      · have : m = k + 1 := by omega
        subst this
        have hv9 := hlt9 (k + 1) (Nat.le_refl _)
        rw [sv_all] at *
        generalize val_ l (k + 1) = w at *
        have hsb : shortB (w : Int) = shortN w := by simp [shortB]
        have hq1 : ¬ ((0 : Int) ≤ (k : Int) - ((k : Int) + 1)) := by omega
        have hsh := (rshort_f (n := (w : Int)) (by omega)).pure
        rw [hsb] at hsh
        clear hlt9 hsb
        by_cases hle : (shortN w).length = k + 1
        · rw [if_pos hle] at hs
          rw [hs] at hx
          rw [rdShort_yes hx]
          have hle' : ((shortN w).length : Int) = k + 1 := by omega
          clear hx hs
          repeat' (first | with_reducible refine br_t ?_ | with_reducible refine br_f ?_ | with_reducible refine br_dec (fun _ => ?_) (fun _ => ?_) | with_reducible refine g_dec (fun _ => ?_) (fun _ => ?_) | with_reducible refine g_ndec (fun _ => ?_) (fun _ => ?_) | with_reducible refine br_not (fun _ => ?_) (fun _ => ?_) | with_reducible refine br_split (fun _ => ?_) (fun _ => ?_) | with_reducible refine g_not (fun _ => ?_) (fun _ => ?_) | with_reducible refine g_split (fun _ => ?_) (fun _ => ?_) | with_reducible refine px_dec (fun _ => ?_) (fun _ => ?_) | with_reducible refine px_ndec (fun _ => ?_) (fun _ => ?_) | with_reducible refine px_split (fun _ => ?_) (fun _ => ?_) | with_reducible refine callC hsh (fun v1 hv1 => ?_) | with_reducible refine callE (hf _) ?_ | simp -implicitDefEqProofs (maxSteps := 2000000) (disch := first | assumption | omega) [*, ])
          all_goals first | (exfalso; omega) | exact Ends.eqat (by simp; omega) (by simp) hv1
        · rw [if_neg hle] at hs
          rw [hs] at hx
          rw [rdShort_err hx (by simp)]
          have hle' : ¬ (((shortN w).length : Int) = k + 1) := by omega
          clear hx hs
          repeat' (first | with_reducible refine br_t ?_ | with_reducible refine br_f ?_ | with_reducible refine br_dec (fun _ => ?_) (fun _ => ?_) | with_reducible refine g_dec (fun _ => ?_) (fun _ => ?_) | with_reducible refine g_ndec (fun _ => ?_) (fun _ => ?_) | with_reducible refine br_not (fun _ => ?_) (fun _ => ?_) | with_reducible refine br_split (fun _ => ?_) (fun _ => ?_) | with_reducible refine g_not (fun _ => ?_) (fun _ => ?_) | with_reducible refine g_split (fun _ => ?_) (fun _ => ?_) | with_reducible refine px_dec (fun _ => ?_) (fun _ => ?_) | with_reducible refine px_ndec (fun _ => ?_) (fun _ => ?_) | with_reducible refine px_split (fun _ => ?_) (fun _ => ?_) | with_reducible refine callC hsh (fun v1 hv1 => ?_) | with_reducible refine callE (hf _) ?_ | simp -implicitDefEqProofs (maxSteps := 2000000) (disch := first | assumption | omega) [*, ])
          all_goals first | (exfalso; omega) | exact Ends.eqat rfl (by simp) hv1
  · have hrd := rdShort_no (b := b) (r := ⟨a, e⟩) he
    rw [hrd]
    unfold rdO
    simp only
    refine aCalls_go Tryz.func31 rfl (by decide) Tryz.ntmps31 (by simp) false ?_
    have hres : Tryz.f31.results = #[.cell 2 60, .tmp 3] := rfl
    repeat' (first | with_reducible refine br_t ?_ | with_reducible refine br_f ?_ | with_reducible refine br_dec (fun _ => ?_) (fun _ => ?_) | with_reducible refine g_dec (fun _ => ?_) (fun _ => ?_) | with_reducible refine g_ndec (fun _ => ?_) (fun _ => ?_) | with_reducible refine br_not (fun _ => ?_) (fun _ => ?_) | with_reducible refine br_split (fun _ => ?_) (fun _ => ?_) | with_reducible refine g_not (fun _ => ?_) (fun _ => ?_) | with_reducible refine g_split (fun _ => ?_) (fun _ => ?_) | with_reducible refine px_dec (fun _ => ?_) (fun _ => ?_) | with_reducible refine px_ndec (fun _ => ?_) (fun _ => ?_) | with_reducible refine px_split (fun _ => ?_) (fun _ => ?_) | simp -implicitDefEqProofs (maxSteps := 2000000) (disch := first | assumption | omega) [*, ])
    all_goals exact Ends.eqat rfl (by simp) (List.prefix_refl _)
end Go.Hb
end

section
namespace Go.Hb
open Go Go.Proofs Go.RowKit
set_option maxRecDepth 100000
set_option maxHeartbeats 800000
attribute [-simp] aC aL aOper aThen aInBlock aIf aPlan aAppend aLen aIndexAddr aSlice aCells aBounds lBr aq initT aev aAppendOwn aAppendNil aAppendNew aAppendRef LV.cells LV.cellsOk getElem?_pos getElem?_neg

theorem readSigned_p {b : List UInt8} {r : RS} (hr : ROk b r) (hb : b.length ≤ 4611686018427387904) : PureC Tryz.prog 73 [.agg (rdO b r)] (.tup [.agg (rdO b (rdSigned b r).1), .int .i64 (rdSigned b r).2]) := by
  have hs := readShort_p hr hb
  obtain ⟨a, e⟩ := r
  refine .of fun s v => ?_
  by_cases he : e = 0
  · subst he
    have hf := fun e => fail_p (b := b) (a := a) (e0 := 0) (e := e)
    obtain ⟨⟨x, n, e⟩, hx⟩ : ∃ x, sc b ⟨a, 0⟩ = x := ⟨_, rfl⟩
    have hlt := sc_lt (b := b) (r := ⟨a, 0⟩)
    rw [hx] at hlt
    simp only at hlt
    by_cases h3 : e = 0
    · subst h3
      have hq : (x : Int).tdiv 2 = ((x / 2 : Nat) : Int) := by rw [Int.tdiv_eq_ediv_of_nonneg (by omega)]; omega
      have hqb : x / 2 ≤ 4611686018427387904 := by omega
      rw [rdShort_yes hx] at hs
      unfold rdO at hs hf ⊢
      simp only at hs hf
      by_cases h4 : 2305843009213693952 ≤ x / 2
      · rw [rdSigned_big hx h4]
        clear hx
        generalize x / 2 = q at *
        refine aCalls_go Tryz.func73 rfl (by decide) Tryz.ntmps73 (by simp) false ?_
        have hres : Tryz.f73.results = #[.cell 2 60, .tmp 3] := rfl
        repeat' (first | with_reducible refine br_t ?_ | with_reducible refine br_f ?_ | with_reducible refine br_dec (fun _ => ?_) (fun _ => ?_) | with_reducible refine g_dec (fun _ => ?_) (fun _ => ?_) | with_reducible refine g_ndec (fun _ => ?_) (fun _ => ?_) | with_reducible refine br_not (fun _ => ?_) (fun _ => ?_) | with_reducible refine br_split (fun _ => ?_) (fun _ => ?_) | with_reducible refine g_not (fun _ => ?_) (fun _ => ?_) | with_reducible refine g_split (fun _ => ?_) (fun _ => ?_) | with_reducible refine px_dec (fun _ => ?_) (fun _ => ?_) | with_reducible refine px_ndec (fun _ => ?_) (fun _ => ?_) | with_reducible refine px_split (fun _ => ?_) (fun _ => ?_) | with_reducible refine callC hs (fun v1 hv1 => ?_) | with_reducible refine callE (hf _) ?_ | simp -implicitDefEqProofs (maxSteps := 2000000) (disch := first | assumption | omega) [*, ])
        all_goals first | (exfalso; omega) | exact Ends.eqat rfl (by simp) hv1
      · by_cases h5 : x % 2 = 1
        · have hr : (x : Int).tmod 2 = 1 := by rw [Int.tmod_eq_emod_of_nonneg (by omega)]; omega
          rw [rdSigned_odd hx h4 h5]
          clear hx h5
          generalize x / 2 = q at *
          have hw : -((q : Int) + 1) = -1 - (q : Int) := by omega
          refine aCalls_go Tryz.func73 rfl (by decide) Tryz.ntmps73 (by simp) false ?_
          have hres : Tryz.f73.results = #[.cell 2 60, .tmp 3] := rfl
          repeat' (first | with_reducible refine br_t ?_ | with_reducible refine br_f ?_ | with_reducible refine br_dec (fun _ => ?_) (fun _ => ?_) | with_reducible refine g_dec (fun _ => ?_) (fun _ => ?_) | with_reducible refine g_ndec (fun _ => ?_) (fun _ => ?_) | with_reducible refine br_not (fun _ => ?_) (fun _ => ?_) | with_reducible refine br_split (fun _ => ?_) (fun _ => ?_) | with_reducible refine g_not (fun _ => ?_) (fun _ => ?_) | with_reducible refine g_split (fun _ => ?_) (fun _ => ?_) | with_reducible refine px_dec (fun _ => ?_) (fun _ => ?_) | with_reducible refine px_ndec (fun _ => ?_) (fun _ => ?_) | with_reducible refine px_split (fun _ => ?_) (fun _ => ?_) | with_reducible refine callC hs (fun v1 hv1 => ?_) | with_reducible refine callE (hf _) ?_ | simp -implicitDefEqProofs (maxSteps := 2000000) (disch := first | assumption | omega) [*, ])
          all_goals first | (exfalso; omega) | exact Ends.eqat rfl (by simp) hv1
        · have hr : (x : Int).tmod 2 = 0 := by rw [Int.tmod_eq_emod_of_nonneg (by omega)]; omega
          rw [rdSigned_even hx h4 h5]
          clear hx h5
          generalize x / 2 = q at *
          refine aCalls_go Tryz.func73 rfl (by decide) Tryz.ntmps73 (by simp) false ?_
          have hres : Tryz.f73.results = #[.cell 2 60, .tmp 3] := rfl
          repeat' (first | with_reducible refine br_t ?_ | with_reducible refine br_f ?_ | with_reducible refine br_dec (fun _ => ?_) (fun _ => ?_) | with_reducible refine g_dec (fun _ => ?_) (fun _ => ?_) | with_reducible refine g_ndec (fun _ => ?_) (fun _ => ?_) | with_reducible refine br_not (fun _ => ?_) (fun _ => ?_) | with_reducible refine br_split (fun _ => ?_) (fun _ => ?_) | with_reducible refine g_not (fun _ => ?_) (fun _ => ?_) | with_reducible refine g_split (fun _ => ?_) (fun _ => ?_) | with_reducible refine px_dec (fun _ => ?_) (fun _ => ?_) | with_reducible refine px_ndec (fun _ => ?_) (fun _ => ?_) | with_reducible refine px_split (fun _ => ?_) (fun _ => ?_) | with_reducible refine callC hs (fun v1 hv1 => ?_) | with_reducible refine callE (hf _) ?_ | simp -implicitDefEqProofs (maxSteps := 2000000) (disch := first | assumption | omega) [*, ])
          all_goals first | (exfalso; omega) | exact Ends.eqat rfl (by simp) hv1
    · rw [rdShort_err hx h3] at hs
      rw [rdSigned_err hx h3]
      unfold rdO at hs hf ⊢
      simp only at hs hf
      clear hx
      refine aCalls_go Tryz.func73 rfl (by decide) Tryz.ntmps73 (by simp) false ?_
      have hres : Tryz.f73.results = #[.cell 2 60, .tmp 3] := rfl
      repeat' (first | with_reducible refine br_t ?_ | with_reducible refine br_f ?_ | with_reducible refine br_dec (fun _ => ?_) (fun _ => ?_) | with_reducible refine g_dec (fun _ => ?_) (fun _ => ?_) | with_reducible refine g_ndec (fun _ => ?_) (fun _ => ?_) | with_reducible refine br_not (fun _ => ?_) (fun _ => ?_) | with_reducible refine br_split (fun _ => ?_) (fun _ => ?_) | with_reducible refine g_not (fun _ => ?_) (fun _ => ?_) | with_reducible refine g_split (fun _ => ?_) (fun _ => ?_) | with_reducible refine px_dec (fun _ => ?_) (fun _ => ?_) | with_reducible refine px_ndec (fun _ => ?_) (fun _ => ?_) | with_reducible refine px_split (fun _ => ?_) (fun _ => ?_) | with_reducible refine callC hs (fun v1 hv1 => ?_) | with_reducible refine callE (hf _) ?_ | simp -implicitDefEqProofs (maxSteps := 2000000) (disch := first | assumption | omega) [*, ])
      all_goals first | (exfalso; omega) | exact Ends.eqat rfl (by simp) hv1
  · rw [rdShort_no he] at hs
    rw [rdSigned_no he]
    unfold rdO at hs ⊢
    simp only at hs he
    refine aCalls_go Tryz.func73 rfl (by decide) Tryz.ntmps73 (by simp) false ?_
    have hres : Tryz.f73.results = #[.cell 2 60, .tmp 3] := rfl
    repeat' (first | with_reducible refine br_t ?_ | with_reducible refine br_f ?_ | with_reducible refine br_dec (fun _ => ?_) (fun _ => ?_) | with_reducible refine g_dec (fun _ => ?_) (fun _ => ?_) | with_reducible refine g_ndec (fun _ => ?_) (fun _ => ?_) | with_reducible refine br_not (fun _ => ?_) (fun _ => ?_) | with_reducible refine br_split (fun _ => ?_) (fun _ => ?_) | with_reducible refine g_not (fun _ => ?_) (fun _ => ?_) | with_reducible refine g_split (fun _ => ?_) (fun _ => ?_) | with_reducible refine px_dec (fun _ => ?_) (fun _ => ?_) | with_reducible refine px_ndec (fun _ => ?_) (fun _ => ?_) | with_reducible refine px_split (fun _ => ?_) (fun _ => ?_) | with_reducible refine callC hs (fun v1 hv1 => ?_) | simp -implicitDefEqProofs (maxSteps := 2000000) (disch := first | assumption | omega) [*, ])
    all_goals first | (exfalso; omega) | exact Ends.eqat rfl (by simp) hv1
theorem readList_p {b : List UInt8} {most : Nat} {r : RS} (hr : ROk b r) (hb : b.length ≤ 4611686018427387904) (hm : most ≤ 1000) : PureC Tryz.prog 29 [.agg (rdO b r), .int .i64 (most : Int)] (.tup [.agg (rdO b (rdList b most r).1), .int .i64 ((rdList b most r).2 : Int)]) := by
  have hs := readShort_p hr hb
  have hsc := sc_len hr
  obtain ⟨a, e⟩ := r
  refine .of fun s v => ?_
  by_cases he : e = 0
  · subst he
    have hf := fun e => fail_p (b := b) (a := a) (e0 := 0) (e := e)
    obtain ⟨⟨x, n, e⟩, hx⟩ : ∃ x, sc b ⟨a, 0⟩ = x := ⟨_, rfl⟩
    rw [hx] at hsc
    simp only at hsc
    by_cases h3 : e = 0
    · subst h3
      replace hsc := (hsc rfl).2
      have hleft := left_p (b := b) (r := ⟨a + n, 0⟩) hsc
      rw [rdShort_yes hx] at hs
      have hlen : (b.drop (a + n)).length = b.length - (a + n) := List.length_drop
      unfold rdO at hs hf hleft ⊢
      simp only [Int.natCast_add] at hs hf hleft
      by_cases h4 : most < x
      · rw [rdList_big hx h4]
        clear hx
        generalize b.drop (a + n) = l at *
        have h4' : (most : Int) < x := by omega
        refine aCalls_go Tryz.func29 rfl (by decide) Tryz.ntmps29 (by simp) false ?_
        have hres : Tryz.f29.results = #[.cell 4 60, .tmp 5] := rfl
        repeat' (first | with_reducible refine br_t ?_ | with_reducible refine br_f ?_ | with_reducible refine br_dec (fun _ => ?_) (fun _ => ?_) | with_reducible refine g_dec (fun _ => ?_) (fun _ => ?_) | with_reducible refine g_ndec (fun _ => ?_) (fun _ => ?_) | with_reducible refine br_not (fun _ => ?_) (fun _ => ?_) | with_reducible refine br_split (fun _ => ?_) (fun _ => ?_) | with_reducible refine g_not (fun _ => ?_) (fun _ => ?_) | with_reducible refine g_split (fun _ => ?_) (fun _ => ?_) | with_reducible refine px_dec (fun _ => ?_) (fun _ => ?_) | with_reducible refine px_ndec (fun _ => ?_) (fun _ => ?_) | with_reducible refine px_split (fun _ => ?_) (fun _ => ?_) | with_reducible refine callC hs (fun v1 hv1 => ?_) | with_reducible refine callE (hf _) ?_ | simp -implicitDefEqProofs (maxSteps := 2000000) (disch := first | assumption | omega) [*, ])
        all_goals first | (exfalso; omega) | exact Ends.eqat rfl (by simp) hv1
      · have h4' : ¬ ((most : Int) < x) := by omega
        by_cases h5 : b.length < a + n + x
        · rw [rdList_few hx h4 h5]
          clear hx
          generalize b.drop (a + n) = l at *
          have h5' : (l.length : Int) < x := by omega
          clear hlen
          refine aCalls_go Tryz.func29 rfl (by decide) Tryz.ntmps29 (by simp) false ?_
          have hres : Tryz.f29.results = #[.cell 4 60, .tmp 5] := rfl
          repeat' (first | with_reducible refine br_t ?_ | with_reducible refine br_f ?_ | with_reducible refine br_dec (fun _ => ?_) (fun _ => ?_) | with_reducible refine g_dec (fun _ => ?_) (fun _ => ?_) | with_reducible refine g_ndec (fun _ => ?_) (fun _ => ?_) | with_reducible refine br_not (fun _ => ?_) (fun _ => ?_) | with_reducible refine br_split (fun _ => ?_) (fun _ => ?_) | with_reducible refine g_not (fun _ => ?_) (fun _ => ?_) | with_reducible refine g_split (fun _ => ?_) (fun _ => ?_) | with_reducible refine px_dec (fun _ => ?_) (fun _ => ?_) | with_reducible refine px_ndec (fun _ => ?_) (fun _ => ?_) | with_reducible refine px_split (fun _ => ?_) (fun _ => ?_) | with_reducible refine callC hs (fun v1 hv1 => ?_) | with_reducible refine callE hleft ?_ | with_reducible refine callE (hf _) ?_ | simp -implicitDefEqProofs (maxSteps := 2000000) (disch := first | assumption | omega) [*, ])
          all_goals first | (exfalso; omega) | exact Ends.eqat rfl (by simp) hv1
        · rw [rdList_yes hx h4 h5]
          clear hx
          generalize b.drop (a + n) = l at *
          have h5' : ¬ ((l.length : Int) < x) := by omega
          clear hlen
          refine aCalls_go Tryz.func29 rfl (by decide) Tryz.ntmps29 (by simp) false ?_
          have hres : Tryz.f29.results = #[.cell 4 60, .tmp 5] := rfl
          repeat' (first | with_reducible refine br_t ?_ | with_reducible refine br_f ?_ | with_reducible refine br_dec (fun _ => ?_) (fun _ => ?_) | with_reducible refine g_dec (fun _ => ?_) (fun _ => ?_) | with_reducible refine g_ndec (fun _ => ?_) (fun _ => ?_) | with_reducible refine br_not (fun _ => ?_) (fun _ => ?_) | with_reducible refine br_split (fun _ => ?_) (fun _ => ?_) | with_reducible refine g_not (fun _ => ?_) (fun _ => ?_) | with_reducible refine g_split (fun _ => ?_) (fun _ => ?_) | with_reducible refine px_dec (fun _ => ?_) (fun _ => ?_) | with_reducible refine px_ndec (fun _ => ?_) (fun _ => ?_) | with_reducible refine px_split (fun _ => ?_) (fun _ => ?_) | with_reducible refine callC hs (fun v1 hv1 => ?_) | with_reducible refine callE hleft ?_ | with_reducible refine callE (hf _) ?_ | simp -implicitDefEqProofs (maxSteps := 2000000) (disch := first | assumption | omega) [*, ])
          all_goals first | (exfalso; omega) | exact Ends.eqat rfl (by simp) hv1
    · rw [rdShort_err hx h3] at hs
      rw [rdList_err hx h3]
      unfold rdO at hs hf ⊢
      simp only at hs hf
      clear hx
      refine aCalls_go Tryz.func29 rfl (by decide) Tryz.ntmps29 (by simp) false ?_
      have hres : Tryz.f29.results = #[.cell 4 60, .tmp 5] := rfl
      repeat' (first | with_reducible refine br_t ?_ | with_reducible refine br_f ?_ | with_reducible refine br_dec (fun _ => ?_) (fun _ => ?_) | with_reducible refine g_dec (fun _ => ?_) (fun _ => ?_) | with_reducible refine g_ndec (fun _ => ?_) (fun _ => ?_) | with_reducible refine br_not (fun _ => ?_) (fun _ => ?_) | with_reducible refine br_split (fun _ => ?_) (fun _ => ?_) | with_reducible refine g_not (fun _ => ?_) (fun _ => ?_) | with_reducible refine g_split (fun _ => ?_) (fun _ => ?_) | with_reducible refine px_dec (fun _ => ?_) (fun _ => ?_) | with_reducible refine px_ndec (fun _ => ?_) (fun _ => ?_) | with_reducible refine px_split (fun _ => ?_) (fun _ => ?_) | with_reducible refine callC hs (fun v1 hv1 => ?_) | with_reducible refine callE (hf _) ?_ | simp -implicitDefEqProofs (maxSteps := 2000000) (disch := first | assumption | omega) [*, ])
      all_goals first | (exfalso; omega) | exact Ends.eqat rfl (by simp) hv1
  · rw [rdShort_no he] at hs
    rw [rdList_no he]
    unfold rdO at hs ⊢
    simp only at hs he
    refine aCalls_go Tryz.func29 rfl (by decide) Tryz.ntmps29 (by simp) false ?_
    have hres : Tryz.f29.results = #[.cell 4 60, .tmp 5] := rfl
    repeat' (first | with_reducible refine br_t ?_ | with_reducible refine br_f ?_ | with_reducible refine br_dec (fun _ => ?_) (fun _ => ?_) | with_reducible refine g_dec (fun _ => ?_) (fun _ => ?_) | with_reducible refine g_ndec (fun _ => ?_) (fun _ => ?_) | with_reducible refine br_not (fun _ => ?_) (fun _ => ?_) | with_reducible refine br_split (fun _ => ?_) (fun _ => ?_) | with_reducible refine g_not (fun _ => ?_) (fun _ => ?_) | with_reducible refine g_split (fun _ => ?_) (fun _ => ?_) | with_reducible refine px_dec (fun _ => ?_) (fun _ => ?_) | with_reducible refine px_ndec (fun _ => ?_) (fun _ => ?_) | with_reducible refine px_split (fun _ => ?_) (fun _ => ?_) | with_reducible refine callC hs (fun v1 hv1 => ?_) | simp -implicitDefEqProofs (maxSteps := 2000000) (disch := first | assumption | omega) [*, ])
    all_goals first | (exfalso; omega) | exact Ends.eqat rfl (by simp) hv1
theorem readRaw_p {b : List UInt8} {r : RS} (hr : ROk b r) (hb : b.length ≤ 4611686018427387904) : PureE Tryz.prog 88 [.agg (rdO b r), .int .i64 1] (.tup [.agg (rdO b (rdByte b r).1), row (rbL b r)]) := by
  have hle := hr.1
  obtain ⟨a, e⟩ := r
  simp only at hle
  refine .of fun s v => ?_
  by_cases he : e = 0
  · subst he
    have hf := fun e => fail_p (b := b) (a := a) (e0 := 0) (e := e)
    have hleft := left_p (b := b) (r := ⟨a, 0⟩) hle
    have hlen : (b.drop a).length = b.length - a := List.length_drop
    by_cases h3 : a < b.length
    · have ht : (b.drop a).take 1 = [nth b a] := by rw [drop_nth h3]; rfl
      have hrb : rbL b ⟨a, 0⟩ = [nth b a] := by simp [rbL, h3]
      rw [rdByte_yes h3, hrb]
      unfold rdO at hf hleft ⊢
      simp only at hf hleft
      generalize b.drop a = l at *
      have hl1 : (1 : Int) ≤ l.length := by omega
      have hl2 : ¬ ((l.length : Int) < 1) := by omega
      clear hlen
      refine aCalls_go Tryz.func88 rfl (by decide) Tryz.ntmps88 (by simp) false ?_
      have hres : Tryz.f88.results = #[.cell 4 60, .tmp 5] := rfl
      repeat' (first | with_reducible refine br_t ?_ | with_reducible refine br_f ?_ | with_reducible refine br_dec (fun _ => ?_) (fun _ => ?_) | with_reducible refine g_dec (fun _ => ?_) (fun _ => ?_) | with_reducible refine g_ndec (fun _ => ?_) (fun _ => ?_) | with_reducible refine br_not (fun _ => ?_) (fun _ => ?_) | with_reducible refine br_split (fun _ => ?_) (fun _ => ?_) | with_reducible refine g_not (fun _ => ?_) (fun _ => ?_) | with_reducible refine g_split (fun _ => ?_) (fun _ => ?_) | with_reducible refine px_dec (fun _ => ?_) (fun _ => ?_) | with_reducible refine px_ndec (fun _ => ?_) (fun _ => ?_) | with_reducible refine px_split (fun _ => ?_) (fun _ => ?_) | (with_reducible refine aWh_draw (own := false) (id := 7) (.qs [0, 1, 2, 3] (.w 4 [] (.qs [5] .nil))) mixed ?_ ?_ ?_; kernel_rfl; kernel_rfl) | with_reducible refine callE hleft ?_ | with_reducible refine callE (hf _) ?_ | simp -implicitDefEqProofs (maxSteps := 2000000) (disch := first | assumption | omega) [*, ])
      all_goals first | (exfalso; omega) | exact EndsE.eqat rfl (by simp)
    · have hrb : rbL b ⟨a, 0⟩ = [] := by simp [rbL, h3]
      rw [rdByte_few h3, hrb]
      unfold rdO at hf hleft ⊢
      simp only at hf hleft
      generalize b.drop a = l at *
      have hl2 : (l.length : Int) < 1 := by omega
      clear hlen
      refine aCalls_go Tryz.func88 rfl (by decide) Tryz.ntmps88 (by simp) false ?_
      have hres : Tryz.f88.results = #[.cell 4 60, .tmp 5] := rfl
      repeat' (first | with_reducible refine br_t ?_ | with_reducible refine br_f ?_ | with_reducible refine br_dec (fun _ => ?_) (fun _ => ?_) | with_reducible refine g_dec (fun _ => ?_) (fun _ => ?_) | with_reducible refine g_ndec (fun _ => ?_) (fun _ => ?_) | with_reducible refine br_not (fun _ => ?_) (fun _ => ?_) | with_reducible refine br_split (fun _ => ?_) (fun _ => ?_) | with_reducible refine g_not (fun _ => ?_) (fun _ => ?_) | with_reducible refine g_split (fun _ => ?_) (fun _ => ?_) | with_reducible refine px_dec (fun _ => ?_) (fun _ => ?_) | with_reducible refine px_ndec (fun _ => ?_) (fun _ => ?_) | with_reducible refine px_split (fun _ => ?_) (fun _ => ?_) | (with_reducible refine aWh_draw (own := false) (id := 7) (.qs [0, 1, 2, 3] (.w 4 [] (.qs [5] .nil))) mixed ?_ ?_ ?_; kernel_rfl; kernel_rfl) | with_reducible refine callE hleft ?_ | with_reducible refine callE (hf _) ?_ | simp -implicitDefEqProofs (maxSteps := 2000000) (disch := first | assumption | omega) [*, ])
      all_goals first | (exfalso; omega) | exact EndsE.at (by simp) (Weak.tup ⟨Weak.refl _, Weak.nilrow, trivial⟩)
  · have hrb : rbL b ⟨a, e⟩ = [] := by simp [rbL, he]
    rw [rdByte_no he, hrb]
    unfold rdO
    simp only
    refine aCalls_go Tryz.func88 rfl (by decide) Tryz.ntmps88 (by simp) false ?_
    have hres : Tryz.f88.results = #[.cell 4 60, .tmp 5] := rfl
    repeat' (first | with_reducible refine br_t ?_ | with_reducible refine br_f ?_ | with_reducible refine br_dec (fun _ => ?_) (fun _ => ?_) | with_reducible refine g_dec (fun _ => ?_) (fun _ => ?_) | with_reducible refine g_ndec (fun _ => ?_) (fun _ => ?_) | with_reducible refine br_not (fun _ => ?_) (fun _ => ?_) | with_reducible refine br_split (fun _ => ?_) (fun _ => ?_) | with_reducible refine g_not (fun _ => ?_) (fun _ => ?_) | with_reducible refine g_split (fun _ => ?_) (fun _ => ?_) | with_reducible refine px_dec (fun _ => ?_) (fun _ => ?_) | with_reducible refine px_ndec (fun _ => ?_) (fun _ => ?_) | with_reducible refine px_split (fun _ => ?_) (fun _ => ?_) | (with_reducible refine aWh_draw (own := false) (id := 7) (.qs [0, 1, 2, 3] (.w 4 [] (.qs [5] .nil))) mixed ?_ ?_ ?_; kernel_rfl; kernel_rfl) | simp -implicitDefEqProofs (maxSteps := 2000000) (disch := first | assumption | omega) [*, ])
    all_goals first | (exfalso; omega) | exact EndsE.at (by simp) (Weak.tup ⟨Weak.refl _, Weak.nilrow, trivial⟩)
theorem readFixed_p {b : List UInt8} {r : RS} (hr : ROk b r) (hb : b.length ≤ 4611686018427387904) : PureE Tryz.prog 72 [.agg (rdO b r), .int .i64 1] (.tup [.agg (rdO b (rdByte b r).1), .int .u64 ((rdByte b r).2 : Int)]) := by
  have hraw := readRaw_p hr hb
  refine .of fun s v => ?_
  rcases rbL_byte (b := b) (r := r) with ⟨h1, h2⟩ | ⟨c, h1, h2⟩
  · rw [h1] at hraw
    rw [h2]
    unfold rdO at hraw ⊢
    generalize (rdByte b r).1 = r' at *
    refine aCalls_go Tryz.func72 rfl (by decide) Tryz.ntmps72 (by simp) false ?_
    have hres : Tryz.f72.results = #[.cell 4 60, .tmp 5] := rfl
    repeat' (first | with_reducible refine br_t ?_ | with_reducible refine br_f ?_ | with_reducible refine br_dec (fun _ => ?_) (fun _ => ?_) | with_reducible refine g_dec (fun _ => ?_) (fun _ => ?_) | with_reducible refine g_ndec (fun _ => ?_) (fun _ => ?_) | with_reducible refine br_not (fun _ => ?_) (fun _ => ?_) | with_reducible refine br_split (fun _ => ?_) (fun _ => ?_) | with_reducible refine g_not (fun _ => ?_) (fun _ => ?_) | with_reducible refine g_split (fun _ => ?_) (fun _ => ?_) | with_reducible refine px_dec (fun _ => ?_) (fun _ => ?_) | with_reducible refine px_ndec (fun _ => ?_) (fun _ => ?_) | with_reducible refine px_split (fun _ => ?_) (fun _ => ?_) | with_reducible refine callE hraw ?_ | simp -implicitDefEqProofs (maxSteps := 2000000) (disch := first | assumption | omega) [*, ])
    refine aW_for (β := Unit) false 0 (fun _ _ => True) (fun k _ => [(9, .int .i64 (-1)), (8, .int .u64 0), (19, .any), (20, .any), (23, .any), (24, .any), (25, .any), (26, .any), (27, .any), (28, .any), (29, .any), (30, .any), (21, .any), (22, .any)]) (fun _ _ => s ++ [.cells [row b, .int .i64 r.at_, .int .i64 r.e], .cells [.nils, .int .i64 0, .int .i64 0], .cells [row b, .int .i64 r'.at_, .int .i64 r'.e]]) (fun _ _ => v) ?_ ?_
    · exact ⟨(), trivial, by (refine Fits.of ?_ (Off.refl _ _); simp [upd_apply, upds_cons]), rfl, rfl⟩
    rintro k _ hk _
    repeat' (first | with_reducible refine br_t ?_ | with_reducible refine br_f ?_ | with_reducible refine br_dec (fun _ => ?_) (fun _ => ?_) | with_reducible refine g_dec (fun _ => ?_) (fun _ => ?_) | with_reducible refine g_ndec (fun _ => ?_) (fun _ => ?_) | with_reducible refine br_not (fun _ => ?_) (fun _ => ?_) | with_reducible refine br_split (fun _ => ?_) (fun _ => ?_) | with_reducible refine g_not (fun _ => ?_) (fun _ => ?_) | with_reducible refine g_split (fun _ => ?_) (fun _ => ?_) | with_reducible refine px_dec (fun _ => ?_) (fun _ => ?_) | with_reducible refine px_ndec (fun _ => ?_) (fun _ => ?_) | with_reducible refine px_split (fun _ => ?_) (fun _ => ?_) | simp -implicitDefEqProofs (maxSteps := 2000000) (disch := first | assumption | omega) [*, ])
    all_goals first | (exfalso; omega) | exact EndsE.eqat rfl (by simp)
  · rw [h1] at hraw
    rw [h2]
    unfold rdO at hraw ⊢
    generalize (rdByte b r).1 = r' at *
    have hc2 := c.toNat_lt
    obtain ⟨z, hz⟩ : ∃ z, c.toNat = z := ⟨_, rfl⟩
    rw [hz] at hc2 ⊢
    have hix : ix [c] 0 = some (.eptr [.int .u8 (z : Int)]) := by rw [← hz]; rfl
    have hw1 : IntKind.u64.wrap (z : Int) = z := by
      simp [IntKind.wrap, IntKind.signed, IntKind.bits]; omega
    have hw0 : IntKind.u64.wrap 0 = 0 := by decide
    clear hz h2
    refine aCalls_go Tryz.func72 rfl (by decide) Tryz.ntmps72 (by simp) false ?_
    have hres : Tryz.f72.results = #[.cell 4 60, .tmp 5] := rfl
    repeat' (first | with_reducible refine br_t ?_ | with_reducible refine br_f ?_ | with_reducible refine br_dec (fun _ => ?_) (fun _ => ?_) | with_reducible refine g_dec (fun _ => ?_) (fun _ => ?_) | with_reducible refine g_ndec (fun _ => ?_) (fun _ => ?_) | with_reducible refine br_not (fun _ => ?_) (fun _ => ?_) | with_reducible refine br_split (fun _ => ?_) (fun _ => ?_) | with_reducible refine g_not (fun _ => ?_) (fun _ => ?_) | with_reducible refine g_split (fun _ => ?_) (fun _ => ?_) | with_reducible refine px_dec (fun _ => ?_) (fun _ => ?_) | with_reducible refine px_ndec (fun _ => ?_) (fun _ => ?_) | with_reducible refine px_split (fun _ => ?_) (fun _ => ?_) | with_reducible refine callE hraw ?_ | simp -implicitDefEqProofs (maxSteps := 2000000) (disch := first | assumption | omega) [*, ])
    refine aW_for (β := Unit) false 1 (fun _ _ => True) (fun k _ => [(9, .int .i64 (-(k : Int))), (8, .int .u64 (if k = 0 then 0 else z)), (19, .any), (20, .any), (23, .any), (24, .any), (25, .any), (26, .any), (27, .any), (28, .any), (29, .any), (30, .any), (21, .any), (22, .any)]) (fun _ _ => s ++ [.cells [row b, .int .i64 r.at_, .int .i64 r.e], .cells [.nils, .int .i64 0, .int .i64 0], .cells [row b, .int .i64 r'.at_, .int .i64 r'.e]]) (fun _ _ => v) ?_ ?_
    · exact ⟨(), trivial, by (refine Fits.of ?_ (Off.refl _ _); simp [upd_apply, upds_cons]), rfl, rfl⟩
    rintro k _ hk _
    by_cases h0 : k = 0
    · subst h0
      repeat' (first | with_reducible refine br_t ?_ | with_reducible refine br_f ?_ | with_reducible refine br_dec (fun _ => ?_) (fun _ => ?_) | with_reducible refine g_dec (fun _ => ?_) (fun _ => ?_) | with_reducible refine g_ndec (fun _ => ?_) (fun _ => ?_) | with_reducible refine br_not (fun _ => ?_) (fun _ => ?_) | with_reducible refine br_split (fun _ => ?_) (fun _ => ?_) | with_reducible refine g_not (fun _ => ?_) (fun _ => ?_) | with_reducible refine g_split (fun _ => ?_) (fun _ => ?_) | with_reducible refine px_dec (fun _ => ?_) (fun _ => ?_) | with_reducible refine px_ndec (fun _ => ?_) (fun _ => ?_) | with_reducible refine px_split (fun _ => ?_) (fun _ => ?_) | simp -implicitDefEqProofs (maxSteps := 2000000) (disch := first | assumption | omega) [*, ])
      all_goals first | (exfalso; omega) | exact ⟨by omega, (), trivial, by (refine Fits.of ?_ ?_; rotate_left; (repeat (first | with_reducible exact Off.refl _ _ | refine Off.upd rfl ?_ | refine Off.updO rfl ?_ | refine Off.upds rfl ?_)); first | (simp [upd_apply, upds_cons]; done) | (simp [upd_apply, upds_cons, *, ]; done) | (simp [upd_apply, upds_cons, *, ]; omega) | simp [upd_apply, upds_cons]), rfl, rfl⟩
    · have : k = 1 := by omega
      subst this
      repeat' (first | with_reducible refine br_t ?_ | with_reducible refine br_f ?_ | with_reducible refine br_dec (fun _ => ?_) (fun _ => ?_) | with_reducible refine g_dec (fun _ => ?_) (fun _ => ?_) | with_reducible refine g_ndec (fun _ => ?_) (fun _ => ?_) | with_reducible refine br_not (fun _ => ?_) (fun _ => ?_) | with_reducible refine br_split (fun _ => ?_) (fun _ => ?_) | with_reducible refine g_not (fun _ => ?_) (fun _ => ?_) | with_reducible refine g_split (fun _ => ?_) (fun _ => ?_) | with_reducible refine px_dec (fun _ => ?_) (fun _ => ?_) | with_reducible refine px_ndec (fun _ => ?_) (fun _ => ?_) | with_reducible refine px_split (fun _ => ?_) (fun _ => ?_) | simp -implicitDefEqProofs (maxSteps := 2000000) (disch := first | assumption | omega) [*, ])
      all_goals first | (exfalso; omega) | exact EndsE.eqat rfl (by simp)
end Go.Hb
end

section
namespace Go.Hb
open Go Go.Proofs Go.RowKit
set_option maxRecDepth 100000
set_option maxHeartbeats 800000
attribute [-simp] aC aL aOper aThen aInBlock aIf aPlan aAppend aLen aIndexAddr aSlice aCells aBounds lBr aq initT aev aAppendOwn aAppendNil aAppendNew aAppendRef LV.cells LV.cellsOk getElem?_pos getElem?_neg

theorem readNums_p {b : List UInt8} {r : RS} (hr : ROk b r) (hb : b.length ≤ 4611686018427387904) : PureC Tryz.prog 32 [.agg (rdO b r)] (.tup [.agg (rdO b (rdNums b r).1), row (rdNums b r).2]) := by
  have hl := readList_p (most := 8) hr hb (by omega)
  have ol := rdList_ok (most := 8) hr
  refine .of fun s v => ?_
  unfold rdNums
  generalize rdList b 8 r = rl at *
  obtain ⟨r1, n⟩ := rl
  simp only at *
  unfold rdO at hl ⊢
  refine aCalls_go Tryz.func32 rfl (by decide) Tryz.ntmps32 (by simp) false ?_
  have hres : Tryz.f32.results = #[.cell 2 60, .tmp 3] := rfl
  repeat' (first | with_reducible refine br_t ?_ | with_reducible refine br_f ?_ | with_reducible refine br_dec (fun _ => ?_) (fun _ => ?_) | with_reducible refine g_dec (fun _ => ?_) (fun _ => ?_) | with_reducible refine g_ndec (fun _ => ?_) (fun _ => ?_) | with_reducible refine br_not (fun _ => ?_) (fun _ => ?_) | with_reducible refine br_split (fun _ => ?_) (fun _ => ?_) | with_reducible refine g_not (fun _ => ?_) (fun _ => ?_) | with_reducible refine g_split (fun _ => ?_) (fun _ => ?_) | with_reducible refine px_dec (fun _ => ?_) (fun _ => ?_) | with_reducible refine px_ndec (fun _ => ?_) (fun _ => ?_) | with_reducible refine px_split (fun _ => ?_) (fun _ => ?_) | with_reducible refine callC hl (fun v1 hv1 => ?_) | simp -implicitDefEqProofs (maxSteps := 2000000) (disch := first | assumption | omega) [*, ])
  refine aW_for (β := LV × List Nat × List AObj) false n (fun k p => Gro v p.2.1 (rdMany (rdShort b) k r1).2 p.1) (fun k p => [(7, .int .i64 k), (6, p.1), (15, .any), (16, .any), (17, .any), (21, .any), (22, .any), (20, .any), (23, .any), (24, .any), (8, .any), (9, .any), (25, .any), (26, .any), (27, .any), (28, .any), (29, .any), (18, .any), (19, .any)]) (fun k p => s ++ (.cells [row b, .int .i64 r.at_, .int .i64 r.e] :: .cells [.nils, .int .i64 0, .int .i64 0] :: .cells [row b, .int .i64 (rdMany (rdShort b) k r1).1.at_, .int .i64 (rdMany (rdShort b) k r1).1.e] :: p.2.2)) (fun _ p => p.2.1) ?_ ?_
  · exact ⟨(.nils, v1, []), (Gro.nil v1).back hv1, by (refine Fits.of ?_ (Off.refl _ _); simp [upd_apply, upds_cons]), rfl, rfl⟩
  rintro k ⟨x, v2, J⟩ hk hx
  simp only at hx
  have hxc := hx.cells
  by_cases hlt : k < n
  · have hkl := rdMany_len (rdShort b) k r1
    have hok := (rdMany_ok (p := fun _ => True) (fun r hr => ⟨(rdShort_ok hr).1, trivial⟩) k r1 ol.1).1
    have hc2 := readShort_p hok hb
    unfold rdO at hc2
    repeat' (first | with_reducible refine br_t ?_ | with_reducible refine br_f ?_ | with_reducible refine br_dec (fun _ => ?_) (fun _ => ?_) | with_reducible refine g_dec (fun _ => ?_) (fun _ => ?_) | with_reducible refine g_ndec (fun _ => ?_) (fun _ => ?_) | with_reducible refine br_not (fun _ => ?_) (fun _ => ?_) | with_reducible refine br_split (fun _ => ?_) (fun _ => ?_) | with_reducible refine g_not (fun _ => ?_) (fun _ => ?_) | with_reducible refine g_split (fun _ => ?_) (fun _ => ?_) | with_reducible refine px_dec (fun _ => ?_) (fun _ => ?_) | with_reducible refine px_ndec (fun _ => ?_) (fun _ => ?_) | with_reducible refine px_split (fun _ => ?_) (fun _ => ?_) | with_reducible refine callC hc2 (fun v3 hv3 => ?_) | simp -implicitDefEqProofs (maxSteps := 2000000) (disch := first | assumption | omega) [*, ])
    obtain ⟨x', v4, hx', _, ha⟩ := Gro.push (P := Tryz.prog) (t := 24) (t2 := 24) (sz := 1) (by_ := 8) (by kernel_rfl) rfl (by omega) (hx.mono hv3) (rdShort b (rdMany (rdShort b) k r1).1).2 (Weaks.refl _) rfl (by omega)
    simp only [enc_int] at ha
    have hxc' := hx'.cells
    repeat' (first | with_reducible refine br_t ?_ | with_reducible refine br_f ?_ | with_reducible refine br_dec (fun _ => ?_) (fun _ => ?_) | with_reducible refine g_dec (fun _ => ?_) (fun _ => ?_) | with_reducible refine g_ndec (fun _ => ?_) (fun _ => ?_) | with_reducible refine br_not (fun _ => ?_) (fun _ => ?_) | with_reducible refine br_split (fun _ => ?_) (fun _ => ?_) | with_reducible refine g_not (fun _ => ?_) (fun _ => ?_) | with_reducible refine g_split (fun _ => ?_) (fun _ => ?_) | with_reducible refine px_dec (fun _ => ?_) (fun _ => ?_) | with_reducible refine px_ndec (fun _ => ?_) (fun _ => ?_) | with_reducible refine px_split (fun _ => ?_) (fun _ => ?_) | simp -implicitDefEqProofs (maxSteps := 2000000) (disch := first | assumption | omega) [*, ])
    exact ⟨hlt, (x', v4, _), hx', by (refine Fits.of ?_ ?_; rotate_left; (repeat (first | with_reducible exact Off.refl _ _ | refine Off.upd rfl ?_ | refine Off.updO rfl ?_ | refine Off.upds rfl ?_)); simp [upd_apply, upds_cons]), rfl, rfl⟩
  · have : k = n := by omega
    subst this
    have hu := hx.under s.length
    have hw := hx.weak
    have hp := hx.pre
    repeat' (first | with_reducible refine br_t ?_ | with_reducible refine br_f ?_ | with_reducible refine br_dec (fun _ => ?_) (fun _ => ?_) | with_reducible refine g_dec (fun _ => ?_) (fun _ => ?_) | with_reducible refine g_ndec (fun _ => ?_) (fun _ => ?_) | with_reducible refine br_not (fun _ => ?_) (fun _ => ?_) | with_reducible refine br_split (fun _ => ?_) (fun _ => ?_) | with_reducible refine g_not (fun _ => ?_) (fun _ => ?_) | with_reducible refine g_split (fun _ => ?_) (fun _ => ?_) | with_reducible refine px_dec (fun _ => ?_) (fun _ => ?_) | with_reducible refine px_ndec (fun _ => ?_) (fun _ => ?_) | with_reducible refine px_split (fun _ => ?_) (fun _ => ?_) | simp -implicitDefEqProofs (maxSteps := 2000000) (disch := first | assumption | omega) [*, ])
    exact Ends.at (by simp [hu]) (Weak.tup ⟨Weak.refl _, hw, trivial⟩) hp
theorem readFn_p {b : List UInt8} {r : RS} (hr : ROk b r) (hb : b.length ≤ 4611686018427387904) : PureC Tryz.prog 30 [.agg (rdO b r)] (.tup [.agg (rdO b (rdFn b r).1), .agg [.int .i64 (rdFn b r).2.locals, row (rdFn b r).2.code]]) := by
  have hc := readShort_p hr hb
  have hs1 := rdShort_ok hr
  refine .of fun s v => ?_
  unfold rdFn
  simp only
  generalize rdShort b r = rs at *
  obtain ⟨r1, lo⟩ := rs
  simp only at *
  have hl := readList_p (most := 64) hs1.1 hb (by omega)
  have ol := rdList_ok (most := 64) hs1.1
  generalize rdList b 64 r1 = rl at *
  obtain ⟨r2, n⟩ := rl
  simp only at *
  unfold rdO at hl hc ⊢
  refine aCalls_go Tryz.func30 rfl (by decide) Tryz.ntmps30 (by simp) false ?_
  have hres : Tryz.f30.results = #[.cell 2 60, .cell 3 46] := rfl
  repeat' (first | with_reducible refine br_t ?_ | with_reducible refine br_f ?_ | with_reducible refine br_dec (fun _ => ?_) (fun _ => ?_) | with_reducible refine g_dec (fun _ => ?_) (fun _ => ?_) | with_reducible refine g_ndec (fun _ => ?_) (fun _ => ?_) | with_reducible refine br_not (fun _ => ?_) (fun _ => ?_) | with_reducible refine br_split (fun _ => ?_) (fun _ => ?_) | with_reducible refine g_not (fun _ => ?_) (fun _ => ?_) | with_reducible refine g_split (fun _ => ?_) (fun _ => ?_) | with_reducible refine px_dec (fun _ => ?_) (fun _ => ?_) | with_reducible refine px_ndec (fun _ => ?_) (fun _ => ?_) | with_reducible refine px_split (fun _ => ?_) (fun _ => ?_) | (with_reducible refine aWh_draw (own := false) (id := 12) (.qs [0, 1] (.w 2 [1] (.w 3 [] .nil))) mixed ?_ ?_ ?_; kernel_rfl; kernel_rfl) | with_reducible refine callC hc (fun v1 hv1 => ?_) | with_reducible refine callC hl (fun v2 hv2 => ?_) | simp -implicitDefEqProofs (maxSteps := 2000000) (disch := first | assumption | omega) [*, ])
  refine aW_for (β := LV × List Nat × List AObj) false n (fun k p => Gro v p.2.1 (rdMany (rdIns b) k r2).2 p.1) (fun k p => [(9, .int .i64 k), (26, .any), (27, .any), (28, .any), (32, .any), (33, .any), (31, .any), (34, .any), (35, .any), (10, .any), (11, .any), (37, .any), (38, .any), (36, .any), (39, .any), (40, .any), (12, .any), (13, .any), (41, .any), (42, .any), (43, .any), (44, .any), (45, .any), (46, .any), (47, .any), (48, .any), (49, .any), (50, .any), (29, .any), (30, .any)]) (fun k p => s ++ (.cells [row b, .int .i64 r.at_, .int .i64 r.e] :: .cells [.nils, .int .i64 0, .int .i64 0] :: .cells [.int .i64 0, .nils] :: .cells [.int .i64 lo, p.1] :: .cells [row b, .int .i64 r1.at_, .int .i64 r1.e] :: .cells [row b, .int .i64 (rdMany (rdIns b) k r2).1.at_, .int .i64 (rdMany (rdIns b) k r2).1.e] :: p.2.2)) (fun _ p => p.2.1) ?_ ?_
  · exact ⟨(.nils, v2, []), (Gro.nil v2).back (hv1.trans hv2), by (refine Fits.of ?_ (Off.refl _ _); simp [upd_apply, upds_cons]), rfl, rfl⟩
  rintro k ⟨x, v3, J⟩ hk hx
  simp only at hx
  have hxc := hx.cells
  by_cases hlt : k < n
  · have hkl := rdMany_len (rdIns b) k r2
    have hok := (rdMany_ok (p := fun _ => True) (fun r hr => ⟨(rdIns_ok hr).1, trivial⟩) k r2 ol.1).1
    have hby := rdByte_ok hok
    have hc3 := readFixed_p hok hb
    have hc4 := readSigned_p hby.1 hb
    have hz : IntKind.i64.wrap ((rdByte b (rdMany (rdIns b) k r2).1).2 : Int) = ((rdByte b (rdMany (rdIns b) k r2).1).2 : Int) := wrap_in (by omega) (by omega)
    unfold rdO at hc3 hc4
    repeat' (first | with_reducible refine br_t ?_ | with_reducible refine br_f ?_ | with_reducible refine br_dec (fun _ => ?_) (fun _ => ?_) | with_reducible refine g_dec (fun _ => ?_) (fun _ => ?_) | with_reducible refine g_ndec (fun _ => ?_) (fun _ => ?_) | with_reducible refine br_not (fun _ => ?_) (fun _ => ?_) | with_reducible refine br_split (fun _ => ?_) (fun _ => ?_) | with_reducible refine g_not (fun _ => ?_) (fun _ => ?_) | with_reducible refine g_split (fun _ => ?_) (fun _ => ?_) | with_reducible refine px_dec (fun _ => ?_) (fun _ => ?_) | with_reducible refine px_ndec (fun _ => ?_) (fun _ => ?_) | with_reducible refine px_split (fun _ => ?_) (fun _ => ?_) | (with_reducible refine aWh_draw (own := false) (id := 12) (.qs [0, 1] (.w 2 [1] (.w 3 [] .nil))) mixed ?_ ?_ ?_; kernel_rfl; kernel_rfl) | with_reducible refine callE hc3 ?_ | with_reducible refine callC hc4 (fun v4 hv4 => ?_) | simp -implicitDefEqProofs (maxSteps := 2000000) (disch := first | assumption | omega) [*, ])
    obtain ⟨x', v6, hx', _, ha⟩ := Gro.push (P := Tryz.prog) (t := 44) (t2 := 44) (sz := 2) (by_ := 16) (by kernel_rfl) rfl (by omega) (hx.mono hv4) (rdIns b (rdMany (rdIns b) k r2).1).2 (Weaks.refl _) rfl (by omega)
    simp only [enc_ins, rdIns] at ha
    have hxc' := hx'.cells
    repeat' (first | with_reducible refine br_t ?_ | with_reducible refine br_f ?_ | with_reducible refine br_dec (fun _ => ?_) (fun _ => ?_) | with_reducible refine g_dec (fun _ => ?_) (fun _ => ?_) | with_reducible refine g_ndec (fun _ => ?_) (fun _ => ?_) | with_reducible refine br_not (fun _ => ?_) (fun _ => ?_) | with_reducible refine br_split (fun _ => ?_) (fun _ => ?_) | with_reducible refine g_not (fun _ => ?_) (fun _ => ?_) | with_reducible refine g_split (fun _ => ?_) (fun _ => ?_) | with_reducible refine px_dec (fun _ => ?_) (fun _ => ?_) | with_reducible refine px_ndec (fun _ => ?_) (fun _ => ?_) | with_reducible refine px_split (fun _ => ?_) (fun _ => ?_) | (with_reducible refine aWh_draw (own := false) (id := 12) (.qs [0, 1] (.w 2 [1] (.w 3 [] .nil))) mixed ?_ ?_ ?_; kernel_rfl; kernel_rfl) | simp -implicitDefEqProofs (maxSteps := 2000000) (disch := first | assumption | omega) [*, ])
    exact ⟨hlt, (x', v6, _), hx', by (refine Fits.of ?_ ?_; rotate_left; (repeat (first | with_reducible exact Off.refl _ _ | refine Off.upd rfl ?_ | refine Off.updO rfl ?_ | refine Off.upds rfl ?_)); simp [upd_apply, upds_cons]), (by simp [rdMany, rdIns]; rfl), rfl⟩
  · have : k = n := by omega
    subst this
    have hu := hx.under s.length
    have hw := hx.weak
    have hp := hx.pre
    repeat' (first | with_reducible refine br_t ?_ | with_reducible refine br_f ?_ | with_reducible refine br_dec (fun _ => ?_) (fun _ => ?_) | with_reducible refine g_dec (fun _ => ?_) (fun _ => ?_) | with_reducible refine g_ndec (fun _ => ?_) (fun _ => ?_) | with_reducible refine br_not (fun _ => ?_) (fun _ => ?_) | with_reducible refine br_split (fun _ => ?_) (fun _ => ?_) | with_reducible refine g_not (fun _ => ?_) (fun _ => ?_) | with_reducible refine g_split (fun _ => ?_) (fun _ => ?_) | with_reducible refine px_dec (fun _ => ?_) (fun _ => ?_) | with_reducible refine px_ndec (fun _ => ?_) (fun _ => ?_) | with_reducible refine px_split (fun _ => ?_) (fun _ => ?_) | (with_reducible refine aWh_draw (own := false) (id := 12) (.qs [0, 1] (.w 2 [1] (.w 3 [] .nil))) mixed ?_ ?_ ?_; kernel_rfl; kernel_rfl) | simp -implicitDefEqProofs (maxSteps := 2000000) (disch := first | assumption | omega) [*, ])
    exact Ends.at (by simp [hu]) (Weak.tup ⟨Weak.refl _, Weak.agg ⟨Weak.refl _, hw, trivial⟩, trivial⟩) hp
end Go.Hb
end

section
namespace Go.Hb
open Go Go.Proofs Go.RowKit
set_option maxRecDepth 100000
set_option maxHeartbeats 800000
attribute [-simp] aC aL aOper aThen aInBlock aIf aPlan aAppend aLen aIndexAddr aSlice aCells aBounds lBr aq initT aev aAppendOwn aAppendNil aAppendNew aAppendRef LV.cells LV.cellsOk getElem?_pos getElem?_neg

set_option maxHeartbeats 8000000 in
theorem rread_p {b : List UInt8} (hb : b.length ≤ 90000000) : PureC Tryz.prog 10 [row b] (.tup [.agg (readP b).1.lv, .int .i64 (readP b).2]) := by
  have hr0 : ROk b ⟨0, 0⟩ := ⟨Nat.zero_le _, by simp, by simp⟩
  have hb2 : b.length ≤ 4611686018427387904 := by omega
  refine .of fun s v => ?_
  have hl := readList_p (most := 16) hr0 hb2 (by omega)
  have ol := rdList_ok (most := 16) hr0
  unfold readP rdProg rdFuncs rdChoices
  simp only
  generalize rdList b 16 ⟨0, 0⟩ = rl at *
  obtain ⟨r1, n⟩ := rl
  simp only at *
  unfold rdO at hl
  simp only at hl
  refine aCalls_go Tryz.func10 rfl (by decide) Tryz.ntmps10 (by simp) false ?_
  have hres : Tryz.f10.results = #[.cell 2 27, .tmp 3] := rfl
  repeat' (first | with_reducible refine br_t ?_ | with_reducible refine br_f ?_ | with_reducible refine br_dec (fun _ => ?_) (fun _ => ?_) | with_reducible refine g_dec (fun _ => ?_) (fun _ => ?_) | with_reducible refine g_ndec (fun _ => ?_) (fun _ => ?_) | with_reducible refine br_not (fun _ => ?_) (fun _ => ?_) | with_reducible refine br_split (fun _ => ?_) (fun _ => ?_) | with_reducible refine g_not (fun _ => ?_) (fun _ => ?_) | with_reducible refine g_split (fun _ => ?_) (fun _ => ?_) | with_reducible refine px_dec (fun _ => ?_) (fun _ => ?_) | with_reducible refine px_ndec (fun _ => ?_) (fun _ => ?_) | with_reducible refine px_split (fun _ => ?_) (fun _ => ?_) | (with_reducible refine aWh_draw (own := false) (id := 27) (.qs [0, 1, 2] (.w 3 [2] (.qs [4] .nil))) mixed ?_ ?_ ?_; kernel_rfl; kernel_rfl) | with_reducible refine callC hl (fun v2 hv2 => ?_) | simp -implicitDefEqProofs (maxSteps := 2000000) (disch := first | assumption | omega) [*, ])
  clear hl hr0
  refine aW_for (β := LV × List Nat × List AObj) false n (fun k p => Gro v p.2.1 (rdMany (rdFn b) k r1).2 p.1) (fun k p => [(7, .int .i64 k), (32, .any), (33, .any), (34, .any), (38, .any), (39, .any), (37, .any), (40, .any), (41, .any), (8, .any), (9, .any), (42, .any), (43, .any), (44, .any), (45, .any), (46, .any), (47, .any), (48, .any), (35, .any), (36, .any)]) (fun k p => s ++ (.cells [.nils, .int .i64 0, .nils, .nils, .nils, .nils, .int .i64 0] :: .cells [p.1, .int .i64 0, .nils, .nils, .nils, .nils, .int .i64 0] :: .cells [row b, .int .i64 (rdMany (rdFn b) k r1).1.at_, .int .i64 (rdMany (rdFn b) k r1).1.e] :: p.2.2)) (fun _ p => p.2.1) ?_ ?_
  · exact ⟨(.nils, v2, []), (Gro.nil v2).back hv2, by (refine Fits.of ?_ (Off.refl _ _); simp [upd_apply, upds_cons]), rfl, rfl⟩
  rintro k ⟨x, v3, J⟩ hk hx
  simp only at hx
  have hxc := hx.cells
  by_cases hlt : k < n
  · have hkl := rdMany_len (rdFn b) k r1
    have hok := (rdMany_ok (p := fun _ => True) (fun r hr => ⟨(rdFn_ok hr).1, trivial⟩) k r1 ol.1).1
    have hc3 := readFn_p hok hb2
    unfold rdO at hc3
    repeat' (first | with_reducible refine br_t ?_ | with_reducible refine br_f ?_ | with_reducible refine br_dec (fun _ => ?_) (fun _ => ?_) | with_reducible refine g_dec (fun _ => ?_) (fun _ => ?_) | with_reducible refine g_ndec (fun _ => ?_) (fun _ => ?_) | with_reducible refine br_not (fun _ => ?_) (fun _ => ?_) | with_reducible refine br_split (fun _ => ?_) (fun _ => ?_) | with_reducible refine g_not (fun _ => ?_) (fun _ => ?_) | with_reducible refine g_split (fun _ => ?_) (fun _ => ?_) | with_reducible refine px_dec (fun _ => ?_) (fun _ => ?_) | with_reducible refine px_ndec (fun _ => ?_) (fun _ => ?_) | with_reducible refine px_split (fun _ => ?_) (fun _ => ?_) | (with_reducible refine aWh_draw (own := false) (id := 27) (.qs [0, 1, 2] (.w 3 [2] (.qs [4] .nil))) mixed ?_ ?_ ?_; kernel_rfl; kernel_rfl) | with_reducible refine callC hc3 (fun v4 hv4 => ?_) | simp -implicitDefEqProofs (maxSteps := 2000000) (disch := first | assumption | omega) [*, ])
    obtain ⟨x', v6, hx', _, ha⟩ := Gro.push (P := Tryz.prog) (t := 23) (t2 := 23) (sz := 2) (by_ := 32) (by kernel_rfl) rfl (by omega) (hx.mono hv4) (rdFn b (rdMany (rdFn b) k r1).1).2 (Weaks.refl _) (by simp) (by omega)
    simp only [enc_fn] at ha
    have hxc' := hx'.cells
    repeat' (first | with_reducible refine br_t ?_ | with_reducible refine br_f ?_ | with_reducible refine br_dec (fun _ => ?_) (fun _ => ?_) | with_reducible refine g_dec (fun _ => ?_) (fun _ => ?_) | with_reducible refine g_ndec (fun _ => ?_) (fun _ => ?_) | with_reducible refine br_not (fun _ => ?_) (fun _ => ?_) | with_reducible refine br_split (fun _ => ?_) (fun _ => ?_) | with_reducible refine g_not (fun _ => ?_) (fun _ => ?_) | with_reducible refine g_split (fun _ => ?_) (fun _ => ?_) | with_reducible refine px_dec (fun _ => ?_) (fun _ => ?_) | with_reducible refine px_ndec (fun _ => ?_) (fun _ => ?_) | with_reducible refine px_split (fun _ => ?_) (fun _ => ?_) | (with_reducible refine aWh_draw (own := false) (id := 27) (.qs [0, 1, 2] (.w 3 [2] (.qs [4] .nil))) mixed ?_ ?_ ?_; kernel_rfl; kernel_rfl) | simp -implicitDefEqProofs (maxSteps := 2000000) (disch := first | assumption | omega) [*, ])
    exact ⟨hlt, (x', v6, _), hx', by (refine Fits.of ?_ ?_; rotate_left; (repeat (first | with_reducible exact Off.refl _ _ | refine Off.upd rfl ?_ | refine Off.updO rfl ?_ | refine Off.upds rfl ?_)); simp [upd_apply, upds_cons]), (by simp [rdMany]; rfl), rfl⟩
  · have : k = n := by omega
    subst this
    have of := rdMany_ok (p := fun f : Fn_ => I64 f.locals ∧ (∀ i ∈ f.code, I64 i.op ∧ I64 i.a) ∧ f.code.length ≤ 64) (fun r hr => rdFn_ok hr) k r1 ol.1
    have olen := rdMany_len (rdFn b) k r1
    rw [← olen] at ol
    clear hlt hk
    generalize rdMany (rdFn b) k r1 = rf at *
    obtain ⟨r2, fs⟩ := rf
    simp only at of hx ol olen ⊢
    obtain ⟨of1, of2⟩ := of
    replace ol := ol.2
    have o2 := rdShort_ok of1
    have h2 := readShort_p of1 hb2
    generalize rdShort b r2 = y at *
    obtain ⟨r3, mu⟩ := y
    simp only at o2 h2 ⊢
    have o3 := rdNums_ok o2.1
    have h3 := readNums_p o2.1 hb2
    generalize rdNums b r3 = y at *
    obtain ⟨r4, co⟩ := y
    simp only at o3 h3 ⊢
    have o4 := rdNums_ok o3.1
    have h4 := readNums_p o3.1 hb2
    generalize rdNums b r4 = y at *
    obtain ⟨r5, se⟩ := y
    simp only at o4 h4 ⊢
    have o5 := rdNums_ok o4.1
    have h5 := readNums_p o4.1 hb2
    generalize rdNums b r5 = y at *
    obtain ⟨r6, ch⟩ := y
    simp only at o5 h5 ⊢
    have o6 := rdList_ok (most := 8) o5.1
    have h6 := readList_p (most := 8) o5.1 hb2 (by omega)
    generalize rdList b 8 r6 = y at *
    obtain ⟨r7, m⟩ := y
    simp only at o6 h6 ⊢
    unfold rdO at h2 h3 h4 h5 h6
    repeat' (first | with_reducible refine br_t ?_ | with_reducible refine br_f ?_ | with_reducible refine br_dec (fun _ => ?_) (fun _ => ?_) | with_reducible refine g_dec (fun _ => ?_) (fun _ => ?_) | with_reducible refine g_ndec (fun _ => ?_) (fun _ => ?_) | with_reducible refine br_not (fun _ => ?_) (fun _ => ?_) | with_reducible refine br_split (fun _ => ?_) (fun _ => ?_) | with_reducible refine g_not (fun _ => ?_) (fun _ => ?_) | with_reducible refine g_split (fun _ => ?_) (fun _ => ?_) | with_reducible refine px_dec (fun _ => ?_) (fun _ => ?_) | with_reducible refine px_ndec (fun _ => ?_) (fun _ => ?_) | with_reducible refine px_split (fun _ => ?_) (fun _ => ?_) | (with_reducible refine aWh_draw (own := false) (id := 27) (.qs [0, 1, 2] (.w 3 [2] (.qs [4] .nil))) mixed ?_ ?_ ?_; kernel_rfl; kernel_rfl) | with_reducible refine callC h2 (fun v4 hv4 => ?_) | with_reducible refine callC h3 (fun v5 hv5 => ?_) | with_reducible refine callC h4 (fun v6 hv6 => ?_) | with_reducible refine callC h5 (fun v7 hv7 => ?_) | with_reducible refine callC h6 (fun v8 hv8 => ?_) | simp -implicitDefEqProofs (maxSteps := 2000000) (disch := first | assumption | omega) [*, ])
    have hv48 := (((hv4.trans hv5).trans hv6).trans hv7).trans hv8
    clear h2 h3 h4 h5 h6
    refine aW_for (β := LV × List Nat × List AObj) false m (fun j p => Gro v8 p.2.1 (rdMany (rdNums b) j r7).2 p.1) (fun j p => [(20, .int .i64 j), (82, .any), (83, .any), (84, .any), (88, .any), (89, .any), (87, .any), (90, .any), (91, .any), (21, .any), (22, .any), (92, .any), (93, .any), (94, .any), (95, .any), (96, .any), (97, .any), (98, .any), (85, .any), (86, .any)]) (fun j p => s ++ (.cells [.nils, .int .i64 0, .nils, .nils, .nils, .nils, .int .i64 0] :: .cells [x, .int .i64 mu, row co, row se, row ch, p.1, .int .i64 0] :: .cells [row b, .int .i64 r2.at_, .int .i64 r2.e] ::
      (J ++ (.cells [row b, .int .i64 r3.at_, .int .i64 r3.e] :: .cells [row b, .int .i64 r4.at_, .int .i64 r4.e] :: .cells [row b, .int .i64 r5.at_, .int .i64 r5.e] :: .cells [row b, .int .i64 r6.at_, .int .i64 r6.e] :: .cells [row b, .int .i64 (rdMany (rdNums b) j r7).1.at_, .int .i64 (rdMany (rdNums b) j r7).1.e] :: p.2.2)))) (fun _ p => p.2.1) ?_ ?_
    · exact ⟨(.nils, v8, []), Gro.nil v8, by (refine Fits.of ?_ (Off.refl _ _); simp [upd_apply, upds_cons]), rfl, rfl⟩
    rintro j ⟨z, v9, J2⟩ hj hz
    simp only at hz
    have hzc := hz.cells
    by_cases hjl : j < m
    · have hkl := rdMany_len (rdNums b) j r7
      have hok := (rdMany_ok (p := fun _ => True) (fun r hr => ⟨(rdNums_ok hr).1, trivial⟩) j r7 o6.1).1
      have hc3 := readNums_p hok hb2
      unfold rdO at hc3
      repeat' (first | with_reducible refine br_t ?_ | with_reducible refine br_f ?_ | with_reducible refine br_dec (fun _ => ?_) (fun _ => ?_) | with_reducible refine g_dec (fun _ => ?_) (fun _ => ?_) | with_reducible refine g_ndec (fun _ => ?_) (fun _ => ?_) | with_reducible refine br_not (fun _ => ?_) (fun _ => ?_) | with_reducible refine br_split (fun _ => ?_) (fun _ => ?_) | with_reducible refine g_not (fun _ => ?_) (fun _ => ?_) | with_reducible refine g_split (fun _ => ?_) (fun _ => ?_) | with_reducible refine px_dec (fun _ => ?_) (fun _ => ?_) | with_reducible refine px_ndec (fun _ => ?_) (fun _ => ?_) | with_reducible refine px_split (fun _ => ?_) (fun _ => ?_) | (with_reducible refine aWh_draw (own := false) (id := 27) (.qs [0, 1, 2] (.w 3 [2] (.qs [4] .nil))) mixed ?_ ?_ ?_; kernel_rfl; kernel_rfl) | with_reducible refine callC hc3 (fun v10 hv10 => ?_) | simp -implicitDefEqProofs (maxSteps := 2000000) (disch := first | assumption | omega) [*, ])
      obtain ⟨z', v11, hz', _, ha⟩ := Gro.push (P := Tryz.prog) (t := 25) (t2 := 25) (sz := 1) (by_ := 24) (by kernel_rfl) rfl (by omega) (hz.mono hv10) (rdNums b (rdMany (rdNums b) j r7).1).2 (Weaks.refl _) (by simp) (by omega)
      simp only [enc_list] at ha
      have hzc' := hz'.cells
      repeat' (first | with_reducible refine br_t ?_ | with_reducible refine br_f ?_ | with_reducible refine br_dec (fun _ => ?_) (fun _ => ?_) | with_reducible refine g_dec (fun _ => ?_) (fun _ => ?_) | with_reducible refine g_ndec (fun _ => ?_) (fun _ => ?_) | with_reducible refine br_not (fun _ => ?_) (fun _ => ?_) | with_reducible refine br_split (fun _ => ?_) (fun _ => ?_) | with_reducible refine g_not (fun _ => ?_) (fun _ => ?_) | with_reducible refine g_split (fun _ => ?_) (fun _ => ?_) | with_reducible refine px_dec (fun _ => ?_) (fun _ => ?_) | with_reducible refine px_ndec (fun _ => ?_) (fun _ => ?_) | with_reducible refine px_split (fun _ => ?_) (fun _ => ?_) | (with_reducible refine aWh_draw (own := false) (id := 27) (.qs [0, 1, 2] (.w 3 [2] (.qs [4] .nil))) mixed ?_ ?_ ?_; kernel_rfl; kernel_rfl) | simp -implicitDefEqProofs (maxSteps := 2000000) (disch := first | assumption | omega) [*, ])
      exact ⟨hjl, (z', v11, _), hz', by (refine Fits.of ?_ ?_; rotate_left; (repeat (first | with_reducible exact Off.refl _ _ | refine Off.upd rfl ?_ | refine Off.updO rfl ?_ | refine Off.upds rfl ?_)); simp [upd_apply, upds_cons]), (by simp [rdMany]; rfl), rfl⟩
    · have : j = m := by omega
      subst this
      have og := rdMany_ok (p := fun l : List Int => l.length ≤ 8 ∧ ∀ x ∈ l, 0 ≤ x ∧ x ≤ 9223372036854775807) (fun r hr => rdNums_ok hr) j r7 o6.1
      have oglen := rdMany_len (rdNums b) j r7
      rw [← oglen] at o6
      clear hjl hj
      generalize rdMany (rdNums b) j r7 = rg at *
      obtain ⟨r8, cho⟩ := rg
      simp only at og hz o6 ⊢
      obtain ⟨og1, og2⟩ := og
      replace o6 := o6.2
      have o9 := rdShort_ok og1
      have h9 := readShort_p og1 hb2
      generalize rdShort b r8 = y at *
      obtain ⟨r9, th⟩ := y
      simp only at o9 h9 ⊢
      have hokp : OkProg ⟨fs, mu, co, se, ch, cho, th⟩ := by
        refine ⟨⟨fun f hf => ?_, ?_⟩, ?_, nums_row o3.2.1 o3.2.2, nums_row o4.2.1 o4.2.2, nums_row o5.2.1 o5.2.2, ⟨fun l hl => ?_, ?_⟩, ?_⟩
        · have := of2 f hf
          exact ⟨this.1, this.2.1, by omega⟩
        · simp only; omega
        · constructor <;> simp only <;> omega
        · exact nums_row (og2 l hl).1 (og2 l hl).2
        · simp only; omega
        · constructor <;> simp only <;> omega
      have hm0 := rmay_ok hokp
      have hxw := hx.weak
      have hzw := hz.weak
      have hxu := hx.under s.length
      have hzu := hz.under s.length
      have hm : PureE Tryz.prog 33 [.agg [x, .int .i64 mu, row co, row se, row ch, z, .int .i64 th]] (.bool (mayP ⟨fs, mu, co, se, ch, cho, th⟩)) := fun s v => aCalls_argw (args' := [.agg [row fs, .int .i64 mu, row co, row se, row ch, row cho, .int .i64 th]]) ⟨Weak.agg ⟨hxw, Weak.refl _, Weak.refl _, Weak.refl _, Weak.refl _, hzw, Weak.refl _, trivial⟩, trivial⟩ (hm0 s v)
      clear hm0
      have hpx := hx.pre
      have hpz := hz.pre
      have hp0 := hpx.trans (hv48.trans hpz)
      have herr : ∀ e : Int, Weak (.tup [.agg [.nils, .int .i64 0, .nils, .nils, .nils, .nils, .int .i64 0], .int .i64 e]) (.tup [.agg noProg.lv, .int .i64 e]) := fun e => Weak.tup ⟨Weak.agg ⟨Weak.nilrow, Weak.refl _, Weak.nilrow, Weak.nilrow, Weak.nilrow, Weak.nilrow, Weak.refl _, trivial⟩, Weak.refl _, trivial⟩
      have hok : Weak (.tup [.agg [x, .int .i64 mu, row co, row se, row ch, z, .int .i64 th], .int .i64 0]) (.tup [.agg (Prog.lv ⟨fs, mu, co, se, ch, cho, th⟩), .int .i64 0]) := Weak.tup ⟨Weak.agg ⟨hxw, Weak.refl _, Weak.refl _, Weak.refl _, Weak.refl _, hzw, Weak.refl _, trivial⟩, Weak.refl _, trivial⟩
      unfold rdO at h9
      by_cases he : r9.e = 0
      · have he0 : ¬ (r9.e ≠ 0) := by simp [he]
        by_cases hat : r9.at_ < b.length
        · have hat' : (r9.at_ : Int) < b.length := by omega
          rw [if_neg he0, if_pos hat]
          repeat' (first | with_reducible refine br_t ?_ | with_reducible refine br_f ?_ | with_reducible refine br_dec (fun _ => ?_) (fun _ => ?_) | with_reducible refine g_dec (fun _ => ?_) (fun _ => ?_) | with_reducible refine g_ndec (fun _ => ?_) (fun _ => ?_) | with_reducible refine br_not (fun _ => ?_) (fun _ => ?_) | with_reducible refine br_split (fun _ => ?_) (fun _ => ?_) | with_reducible refine g_not (fun _ => ?_) (fun _ => ?_) | with_reducible refine g_split (fun _ => ?_) (fun _ => ?_) | with_reducible refine px_dec (fun _ => ?_) (fun _ => ?_) | with_reducible refine px_ndec (fun _ => ?_) (fun _ => ?_) | with_reducible refine px_split (fun _ => ?_) (fun _ => ?_) | (with_reducible refine aWh_draw (own := false) (id := 27) (.qs [0, 1, 2] (.w 3 [2] (.qs [4] .nil))) mixed ?_ ?_ ?_; kernel_rfl; kernel_rfl) | with_reducible refine callC h9 (fun v10 hv10 => ?_) | with_reducible refine callE hm ?_ | simp -implicitDefEqProofs (maxSteps := 2000000) (disch := first | assumption | omega) [*, ])
          all_goals first | (exfalso; omega) | exact Ends.at (by simp) (herr 3) (hp0.trans hv10)
        · have hat' : ¬ ((r9.at_ : Int) < b.length) := by omega
          rw [if_neg he0, if_neg hat]
          by_cases hmay : mayP ⟨fs, mu, co, se, ch, cho, th⟩ = true
          · rw [hmay] at hm
            rw [if_pos hmay]
            repeat' (first | with_reducible refine br_t ?_ | with_reducible refine br_f ?_ | with_reducible refine br_dec (fun _ => ?_) (fun _ => ?_) | with_reducible refine g_dec (fun _ => ?_) (fun _ => ?_) | with_reducible refine g_ndec (fun _ => ?_) (fun _ => ?_) | with_reducible refine br_not (fun _ => ?_) (fun _ => ?_) | with_reducible refine br_split (fun _ => ?_) (fun _ => ?_) | with_reducible refine g_not (fun _ => ?_) (fun _ => ?_) | with_reducible refine g_split (fun _ => ?_) (fun _ => ?_) | with_reducible refine px_dec (fun _ => ?_) (fun _ => ?_) | with_reducible refine px_ndec (fun _ => ?_) (fun _ => ?_) | with_reducible refine px_split (fun _ => ?_) (fun _ => ?_) | (with_reducible refine aWh_draw (own := false) (id := 27) (.qs [0, 1, 2] (.w 3 [2] (.qs [4] .nil))) mixed ?_ ?_ ?_; kernel_rfl; kernel_rfl) | with_reducible refine callC h9 (fun v10 hv10 => ?_) | with_reducible refine callE hm ?_ | simp -implicitDefEqProofs (maxSteps := 2000000) (disch := first | assumption | omega) [*, ])
            all_goals first | (exfalso; omega) | exact Ends.at (by simp [hxu, hzu]) hok (hp0.trans hv10)
          · rw [if_neg hmay]
            simp only [Bool.not_eq_true] at hmay
            rw [hmay] at hm
            repeat' (first | with_reducible refine br_t ?_ | with_reducible refine br_f ?_ | with_reducible refine br_dec (fun _ => ?_) (fun _ => ?_) | with_reducible refine g_dec (fun _ => ?_) (fun _ => ?_) | with_reducible refine g_ndec (fun _ => ?_) (fun _ => ?_) | with_reducible refine br_not (fun _ => ?_) (fun _ => ?_) | with_reducible refine br_split (fun _ => ?_) (fun _ => ?_) | with_reducible refine g_not (fun _ => ?_) (fun _ => ?_) | with_reducible refine g_split (fun _ => ?_) (fun _ => ?_) | with_reducible refine px_dec (fun _ => ?_) (fun _ => ?_) | with_reducible refine px_ndec (fun _ => ?_) (fun _ => ?_) | with_reducible refine px_split (fun _ => ?_) (fun _ => ?_) | (with_reducible refine aWh_draw (own := false) (id := 27) (.qs [0, 1, 2] (.w 3 [2] (.qs [4] .nil))) mixed ?_ ?_ ?_; kernel_rfl; kernel_rfl) | with_reducible refine callC h9 (fun v10 hv10 => ?_) | with_reducible refine callE hm ?_ | simp -implicitDefEqProofs (maxSteps := 2000000) (disch := first | assumption | omega) [*, ])
            all_goals first | (exfalso; omega) | exact Ends.at (by simp) (herr 1) (hp0.trans hv10)
      · rw [if_pos he]
        repeat' (first | with_reducible refine br_t ?_ | with_reducible refine br_f ?_ | with_reducible refine br_dec (fun _ => ?_) (fun _ => ?_) | with_reducible refine g_dec (fun _ => ?_) (fun _ => ?_) | with_reducible refine g_ndec (fun _ => ?_) (fun _ => ?_) | with_reducible refine br_not (fun _ => ?_) (fun _ => ?_) | with_reducible refine br_split (fun _ => ?_) (fun _ => ?_) | with_reducible refine g_not (fun _ => ?_) (fun _ => ?_) | with_reducible refine g_split (fun _ => ?_) (fun _ => ?_) | with_reducible refine px_dec (fun _ => ?_) (fun _ => ?_) | with_reducible refine px_ndec (fun _ => ?_) (fun _ => ?_) | with_reducible refine px_split (fun _ => ?_) (fun _ => ?_) | (with_reducible refine aWh_draw (own := false) (id := 27) (.qs [0, 1, 2] (.w 3 [2] (.qs [4] .nil))) mixed ?_ ?_ ?_; kernel_rfl; kernel_rfl) | with_reducible refine callC h9 (fun v10 hv10 => ?_) | with_reducible refine callE hm ?_ | simp -implicitDefEqProofs (maxSteps := 2000000) (disch := first | assumption | omega) [*, ])
        all_goals first | (exfalso; omega) | exact Ends.at (by simp) (herr r9.e) (hp0.trans hv10)
end Go.Hb
end

