/-
  A layer for reasoning about the program's calls, and contracts of its functions (RR). CONDITIONS: none; each theorem bears its own.
-/
import Derived.Test.YtcpmmldgimhppaaGreatA
import Derived.Test.YtcpmmldgimhppaaGreatL9
import Derived.Test.YtcpmmldgimhppaaGreatY
set_option linter.unusedVariables false
set_option linter.unusedSimpArgs false
section
namespace Go.Hb
open Go Go.Proofs Go.RowKit
set_option maxRecDepth 100000
set_option maxHeartbeats 800000
attribute [-simp] aC aL aOper aThen aInBlock aIf aPlan aAppend aLen aIndexAddr aSlice aCells aBounds lBr aq initT aev aAppendOwn aAppendNil aAppendNew aAppendRef LV.cells LV.cellsOk getElem?_pos getElem?_neg

theorem u8_and : ∀ n : Nat, n < 256 → IntKind.u8.wrap ((n % 2 ^ IntKind.u8.bits &&& 127 % 2 ^ IntKind.u8.bits : Nat) : Int) = ((n % 128 : Nat) : Int) := by decide +kernel
theorem short_p {l : List UInt8} (hl : l.length ≤ 9223372036854775807) : PureE Tryz.prog 55 [row l] (.tup [.int .i64 ((scan l 0 0).1 : Int), .int .i64 ((scan l 0 0).2.1 : Int), .int .i64 (scan l 0 0).2.2]) := by
  refine .of fun s v => ?_
  obtain ⟨m, hm⟩ : ∃ m : Nat, m = min l.length 9 := ⟨_, rfl⟩
  have hmi : (if 9 < (l.length : Int) then 9 else (l.length : Int)) = (m : Int) := by split <;> omega
  have hmm : min m l.length = m := by omega
  have hm9 : m ≤ 9 := by omega
  have hml : m ≤ l.length := by omega
  have hmc : 9 ≤ m ∨ l.length ≤ m := by omega
  clear hm
  refine aCalls_go Tryz.func55 rfl (by decide) Tryz.ntmps55 (by simp) false ?_
  have hres : Tryz.f55.results = #[.tmp 2, .tmp 3, .tmp 4] := rfl
  repeat' (first | with_reducible refine br_t ?_ | with_reducible refine br_f ?_ | with_reducible refine br_dec (fun _ => ?_) (fun _ => ?_) | with_reducible refine g_dec (fun _ => ?_) (fun _ => ?_) | with_reducible refine g_ndec (fun _ => ?_) (fun _ => ?_) | with_reducible refine br_not (fun _ => ?_) (fun _ => ?_) | with_reducible refine br_split (fun _ => ?_) (fun _ => ?_) | with_reducible refine g_not (fun _ => ?_) (fun _ => ?_) | with_reducible refine g_split (fun _ => ?_) (fun _ => ?_) | with_reducible refine px_dec (fun _ => ?_) (fun _ => ?_) | with_reducible refine px_ndec (fun _ => ?_) (fun _ => ?_) | with_reducible refine px_split (fun _ => ?_) (fun _ => ?_) | simp -implicitDefEqProofs (maxSteps := 2000000) (disch := first | assumption | omega) [*, ])
  refine aW_for (β := Nat) false m (fun k p => scan l 0 0 = scan (l.drop k) k p ∧ p < 128 ^ k) (fun k p => [(14, .int .i64 k), (5, .int .i64 p), (15, .any), (16, .any), (17, .any), (18, .any), (6, .any), (7, .any), (19, .any), (20, .any), (21, .any), (22, .any), (23, .any), (24, .any), (25, .any), (26, .any), (27, .any), (28, .any), (29, .any), (30, .any), (31, .any), (32, .any), (33, .any), (34, .any), (2, .any), (3, .any), (4, .any), (35, .any), (36, .any), (37, .any), (38, .any)]) (fun _ _ => s) (fun _ _ => v) ?_ ?_
  · exact ⟨0, ⟨rfl, by simp⟩, by (refine Fits.of ?_ (Off.refl _ _); simp [upd_apply, upds_cons]), rfl, rfl⟩
  rintro k p hk ⟨hI, hp⟩
  by_cases hlt : k < m
  · have hkl : k < l.length := by omega
    have hnt : nth (l.take m) k = nth l k := by rw [nth_eq (by simp; omega), nth_eq hkl, List.getElem_take]
    rw [drop_nth hkl] at hI
    simp only [scan] at hI
    rw [if_neg (by omega)] at hI
    obtain ⟨c, hc⟩ : ∃ c : UInt8, nth l k = c := ⟨_, rfl⟩
    rw [hc] at hI hnt
    have hc2 := c.toNat_lt
    have hix : ix (l.take m) (k : Int) = some (.eptr [.int .u8 (c.toNat : Int)]) := by
      rw [ix_in (by omega) (by rw [List.length_take]; omega), Int.toNat_natCast, hnt]; rfl
    have hand := u8_and _ hc2
    obtain ⟨d, hd⟩ : ∃ d, c.toNat % 128 = d := ⟨_, rfl⟩
    rw [hd] at hand hI
    have hd2 : d < 128 := by omega
    have h7 : (0 : Int) ≤ 7 * (k : Int) := by omega
    have hle : 128 ^ k * 128 ≤ 9223372036854775808 := by
      have : 128 ^ (k + 1) ≤ 128 ^ 9 := Nat.pow_le_pow_right (by omega) (by omega)
      rw [Nat.pow_succ] at this
      have e : (128 : Nat) ^ 9 = 9223372036854775808 := by decide
      omega
    obtain ⟨e, he⟩ : ∃ e, d * 128 ^ k = e := ⟨_, rfl⟩
    rw [he] at hI
    have hee : e + 128 ^ k ≤ 9223372036854775808 := by
      have := Nat.mul_le_mul_right (128 ^ k) (show d + 1 ≤ 128 by omega)
      rw [Nat.add_mul, he] at this
      omega
    have hshl : IntKind.i64.wrap ((d : Int) * 2 ^ min (7 * (k : Int)).toNat IntKind.i64.bits) = (e : Int) := by
      have e1 : min (7 * (k : Int)).toNat IntKind.i64.bits = 7 * k := by simp [IntKind.bits]; omega
      have e2 : (2 : Int) ^ (7 * k) = ((128 ^ k : Nat) : Int) := by rw [Int.pow_mul]; norm_cast
      rw [e1, e2, ← Int.natCast_mul, he, wrap_in (by omega) (by omega)]
    have hv : p + e < 128 ^ (k + 1) := by
      rw [Nat.pow_succ]
      have := Nat.mul_le_mul_right (128 ^ k) (show d + 1 ≤ 128 by omega)
      rw [Nat.add_mul, he] at this
      omega
    have hor : ((p % 2 ^ IntKind.i64.bits ||| e % 2 ^ IntKind.i64.bits : Nat) : Int) = (p : Int) + e := by
      have b : (2 : Nat) ^ IntKind.i64.bits = 18446744073709551616 := by decide
      have hp2 : p < 2 ^ (7 * k) := by rw [Nat.pow_mul]; exact hp
      have e2 : e = 2 ^ (7 * k) * d := by rw [← he, Nat.pow_mul, Nat.mul_comm]
      rw [b, Nat.mod_eq_of_lt (by omega), Nat.mod_eq_of_lt (by omega), Nat.or_comm, e2, ← Nat.two_pow_add_eq_or_of_lt hp2, Nat.add_comm]
      norm_cast
    clear he hd
    by_cases h1 : 128 ≤ c.toNat
    · rw [if_pos h1] at hI
      repeat' (first | with_reducible refine br_t ?_ | with_reducible refine br_f ?_ | with_reducible refine br_dec (fun _ => ?_) (fun _ => ?_) | with_reducible refine g_dec (fun _ => ?_) (fun _ => ?_) | with_reducible refine g_ndec (fun _ => ?_) (fun _ => ?_) | with_reducible refine br_not (fun _ => ?_) (fun _ => ?_) | with_reducible refine br_split (fun _ => ?_) (fun _ => ?_) | with_reducible refine g_not (fun _ => ?_) (fun _ => ?_) | with_reducible refine g_split (fun _ => ?_) (fun _ => ?_) | with_reducible refine px_dec (fun _ => ?_) (fun _ => ?_) | with_reducible refine px_ndec (fun _ => ?_) (fun _ => ?_) | with_reducible refine px_split (fun _ => ?_) (fun _ => ?_) | simp -implicitDefEqProofs (maxSteps := 2000000) (disch := first | assumption | omega) [*, ])
      all_goals first | (exfalso; omega) | exact ⟨hlt, p + e, ⟨hI, hv⟩, by (refine Fits.of ?_ ?_; rotate_left; (repeat (first | with_reducible exact Off.refl _ _ | refine Off.upd rfl ?_ | refine Off.updO rfl ?_ | refine Off.upds rfl ?_)); simp [upd_apply, upds_cons]), rfl, rfl⟩
    · rw [if_neg h1] at hI
      repeat' (first | with_reducible refine br_t ?_ | with_reducible refine br_f ?_ | with_reducible refine br_dec (fun _ => ?_) (fun _ => ?_) | with_reducible refine g_dec (fun _ => ?_) (fun _ => ?_) | with_reducible refine g_ndec (fun _ => ?_) (fun _ => ?_) | with_reducible refine br_not (fun _ => ?_) (fun _ => ?_) | with_reducible refine br_split (fun _ => ?_) (fun _ => ?_) | with_reducible refine g_not (fun _ => ?_) (fun _ => ?_) | with_reducible refine g_split (fun _ => ?_) (fun _ => ?_) | with_reducible refine px_dec (fun _ => ?_) (fun _ => ?_) | with_reducible refine px_ndec (fun _ => ?_) (fun _ => ?_) | with_reducible refine px_split (fun _ => ?_) (fun _ => ?_) | simp -implicitDefEqProofs (maxSteps := 2000000) (disch := first | assumption | omega) [*, ])
      all_goals first | (exfalso; omega) | skip
      all_goals
        refine EndsE.eq ?_ (by simp)
        split at hI <;> first | (exfalso; omega) | skip
        first | rfl | simp [hI]
  · have : k = m := by omega
    subst this
    have hs : scan (l.drop k) k p = (0, 0, if 9 ≤ k then 3 else 2) := by
      by_cases h9 : 9 ≤ k
      · cases l.drop k <;> simp [scan, h9]
      · rw [List.drop_of_length_le (by omega)]; simp [scan, h9]
    rw [hs] at hI
    repeat' (first | with_reducible refine br_t ?_ | with_reducible refine br_f ?_ | with_reducible refine br_dec (fun _ => ?_) (fun _ => ?_) | with_reducible refine g_dec (fun _ => ?_) (fun _ => ?_) | with_reducible refine g_ndec (fun _ => ?_) (fun _ => ?_) | with_reducible refine br_not (fun _ => ?_) (fun _ => ?_) | with_reducible refine br_split (fun _ => ?_) (fun _ => ?_) | with_reducible refine g_not (fun _ => ?_) (fun _ => ?_) | with_reducible refine g_split (fun _ => ?_) (fun _ => ?_) | with_reducible refine px_dec (fun _ => ?_) (fun _ => ?_) | with_reducible refine px_ndec (fun _ => ?_) (fun _ => ?_) | with_reducible refine px_split (fun _ => ?_) (fun _ => ?_) | simp -implicitDefEqProofs (maxSteps := 2000000) (disch := first | assumption | omega) [*, ])
    all_goals
      refine EndsE.eq ?_ (by simp)
      split <;> first | rfl | (exfalso; omega)
end Go.Hb
end

section
namespace Go.Hb
open Go Go.Proofs Go.RowKit
set_option maxRecDepth 100000
set_option maxHeartbeats 800000
attribute [-simp] aC aL aOper aThen aInBlock aIf aPlan aAppend aLen aIndexAddr aSlice aCells aBounds lBr aq initT aev aAppendOwn aAppendNil aAppendNew aAppendRef LV.cells LV.cellsOk getElem?_pos getElem?_neg

theorem take_no {s : List AObj} {id : Nat} {b : List UInt8} {r : RS} {g : FuncId} {ca : List LV} {v : List Nat} (hs : s[id]? = some (.cells [row b, .int .i64 r.at_, .int .i64 r.e])) (he : r.e ≠ 0) :
    aCalls Tryz.prog 53 [.ptr id 0, .fn (.func g) [] ca] s v (fun y s' v' => .tup [] = y ∧ s = s' ∧ v = v') := by
  have hid := (List.getElem?_eq_some_iff.1 hs).1
  refine aCalls_go Tryz.func53 rfl (by decide) Tryz.ntmps53 (by simp) false ?_
  have hres : Tryz.f53.results = #[] := rfl
  repeat' (first | with_reducible refine br_t ?_ | with_reducible refine br_f ?_ | with_reducible refine br_dec (fun _ => ?_) (fun _ => ?_) | with_reducible refine g_dec (fun _ => ?_) (fun _ => ?_) | with_reducible refine g_ndec (fun _ => ?_) (fun _ => ?_) | with_reducible refine br_not (fun _ => ?_) (fun _ => ?_) | with_reducible refine br_split (fun _ => ?_) (fun _ => ?_) | with_reducible refine g_not (fun _ => ?_) (fun _ => ?_) | with_reducible refine g_split (fun _ => ?_) (fun _ => ?_) | with_reducible refine px_dec (fun _ => ?_) (fun _ => ?_) | with_reducible refine px_ndec (fun _ => ?_) (fun _ => ?_) | with_reducible refine px_split (fun _ => ?_) (fun _ => ?_) | (with_reducible refine aWh_draw (own := false) (id := 1) (.qs [0, 1, 2, 3, 4, 5, 6, 7, 8, 9] (.w 10 [] (.qs [11, 12, 13, 14, 15] .nil))) mixed ?_ ?_ ?_; kernel_rfl; kernel_rfl) | simp -implicitDefEqProofs (maxSteps := 2000000) (disch := first | assumption | omega) [*, ])
  all_goals first | (exfalso; omega) | exact ⟨rfl, rfl, rfl⟩
theorem take_ok {s S1 : List AObj} {id n : Nat} {b : List UInt8} {a : Nat} {e1 : Int} {g : FuncId} {ca : List LV} {v : List Nat} (hs : s[id]? = some (.cells [row b, .int .i64 a, .int .i64 0])) (hS : S1[id]? = some (.cells [row b, .int .i64 a, .int .i64 0])) (ha : a + n ≤ b.length) (hb : b.length ≤ 4611686018427387904)
    (hcl : aCalls Tryz.prog g (row (b.drop a) :: ca) s v fun y s1 v1 => .tup [.int .i64 n, .int .i64 e1] = y ∧ S1 = s1 ∧ v <+: v1) :
    aCalls Tryz.prog 53 [.ptr id 0, .fn (.func g) [] ca] s v (fun y s' v' => .tup [] = y ∧ S1.set id (.cells (if e1 = 0 then [row b, .int .i64 ((a + n : Nat) : Int), .int .i64 0] else [row b, .int .i64 a, .int .i64 e1])) = s' ∧ v <+: v') := by
  have hid := (List.getElem?_eq_some_iff.1 hs).1
  have hid1 := (List.getElem?_eq_some_iff.1 hS).1
  refine aCalls_go Tryz.func53 rfl (by decide) Tryz.ntmps53 (by simp) false ?_
  have hres : Tryz.f53.results = #[] := rfl
  repeat' (first | with_reducible refine br_t ?_ | with_reducible refine br_f ?_ | with_reducible refine br_dec (fun _ => ?_) (fun _ => ?_) | with_reducible refine g_dec (fun _ => ?_) (fun _ => ?_) | with_reducible refine g_ndec (fun _ => ?_) (fun _ => ?_) | with_reducible refine br_not (fun _ => ?_) (fun _ => ?_) | with_reducible refine br_split (fun _ => ?_) (fun _ => ?_) | with_reducible refine g_not (fun _ => ?_) (fun _ => ?_) | with_reducible refine g_split (fun _ => ?_) (fun _ => ?_) | with_reducible refine px_dec (fun _ => ?_) (fun _ => ?_) | with_reducible refine px_ndec (fun _ => ?_) (fun _ => ?_) | with_reducible refine px_split (fun _ => ?_) (fun _ => ?_) | (with_reducible refine aWh_draw (own := false) (id := 1) (.qs [0, 1, 2, 3, 4, 5, 6, 7, 8, 9] (.w 10 [] (.qs [11, 12, 13, 14, 15] .nil))) mixed ?_ ?_ ?_; kernel_rfl; kernel_rfl) | with_reducible refine callS hcl (fun v' hv => ?_) | simp -implicitDefEqProofs (maxSteps := 2000000) (disch := first | assumption | omega) [*, ])
  all_goals (rename_i he; simp only [decide_eq_true_eq, decide_eq_false_iff_not] at he; simp [he])
end Go.Hb
end

section
namespace Go.Hb
open Go Go.Proofs Go.RowKit
set_option maxRecDepth 100000
set_option maxHeartbeats 800000
attribute [-simp] aC aL aOper aThen aInBlock aIf aPlan aAppend aLen aIndexAddr aSlice aCells aBounds lBr aq initT aev aAppendOwn aAppendNil aAppendNew aAppendRef LV.cells LV.cellsOk getElem?_pos getElem?_neg

theorem short1_c {s : List AObj} {idv : Nat} {l : List UInt8} {z : Int} {v : List Nat} (hl : l.length ≤ 9223372036854775807) (hs : s[idv]? = some (.cells [.int .i64 z])) :
    aCalls Tryz.prog 58 (row l :: [.ptr idv 0]) s v fun y s1 v1 => .tup [.int .i64 ((scan l 0 0).2.1 : Int), .int .i64 (scan l 0 0).2.2] = y ∧ s.set idv (.cells [.int .i64 ((scan l 0 0).1 : Int)]) = s1 ∧ v <+: v1 := by
  have hid := (List.getElem?_eq_some_iff.1 hs).1
  have h := short_p hl
  refine aCalls_go Tryz.func58 rfl (by decide) Tryz.ntmps58 (by simp) false ?_
  have hres : Tryz.f58.results = #[.tmp 3, .tmp 4] := rfl
  repeat' (first | with_reducible refine br_t ?_ | with_reducible refine br_f ?_ | with_reducible refine br_dec (fun _ => ?_) (fun _ => ?_) | with_reducible refine g_dec (fun _ => ?_) (fun _ => ?_) | with_reducible refine g_ndec (fun _ => ?_) (fun _ => ?_) | with_reducible refine br_not (fun _ => ?_) (fun _ => ?_) | with_reducible refine br_split (fun _ => ?_) (fun _ => ?_) | with_reducible refine g_not (fun _ => ?_) (fun _ => ?_) | with_reducible refine g_split (fun _ => ?_) (fun _ => ?_) | with_reducible refine px_dec (fun _ => ?_) (fun _ => ?_) | with_reducible refine px_ndec (fun _ => ?_) (fun _ => ?_) | with_reducible refine px_split (fun _ => ?_) (fun _ => ?_) | with_reducible refine callE h ?_ | simp -implicitDefEqProofs (maxSteps := 2000000) (disch := first | assumption | omega) [*, ])
theorem rShort_c {s : List AObj} {id : Nat} {b : List UInt8} {r : RS} {v : List Nat} (hs : s[id]? = some (.cells (rdO b r))) (hr : ROk b r) (hb : b.length ≤ 4611686018427387904) :
    aCalls Tryz.prog 25 [.ptr id 0] s v (RPost s id b v (rdShort b r).1 (.int .i64 (rdShort b r).2)) := by
  refine RPost.of (by simp) ?_
  have hset := at_set hs
  have hg0 := set_get0 (s := s) (id := id)
  by_cases he : r.e = 0
  · obtain ⟨ra, re⟩ := r
    simp only at he
    subst he
    have hle := hr.1
    simp only at hle
    obtain ⟨⟨x1, x2, x3⟩, hx⟩ : ∃ x, sc b ⟨ra, 0⟩ = x := ⟨_, rfl⟩
    have hsc := sc_err (b := b) (r := ⟨ra, 0⟩)
    rw [hx] at hsc
    simp only at hsc
    have hc := short1_c (s := s ++ [.cells [.int .i64 0]]) (idv := s.length) (l := b.drop ra) (z := 0) (v := v) (by simp; omega) (by simp)
    rw [show scan (b.drop ra) 0 0 = (x1, x2, x3) from hx] at hc
    by_cases h3 : x3 = 0
    · subst h3
      have hln := (sc_len hr (by rw [hx])).2
      rw [hx] at hln
      rw [rdShort_yes hx]
      have hcl := take_ok (n := x2) (at_app hs [.cells [.int .i64 0]]) (S1 := s ++ [.cells [.int .i64 (x1 : Int)]]) (at_app hs _) hln hb (by simpa using hc)
      simp only [if_true] at hcl
      clear hx hsc hc
      refine aCalls_go Tryz.func25 rfl (by decide) Tryz.ntmps25 (by simp) false ?_
      have hres : Tryz.f25.results = #[.tmp 2] := rfl
      repeat' (first | with_reducible refine br_t ?_ | with_reducible refine br_f ?_ | with_reducible refine br_dec (fun _ => ?_) (fun _ => ?_) | with_reducible refine g_dec (fun _ => ?_) (fun _ => ?_) | with_reducible refine g_ndec (fun _ => ?_) (fun _ => ?_) | with_reducible refine br_not (fun _ => ?_) (fun _ => ?_) | with_reducible refine br_split (fun _ => ?_) (fun _ => ?_) | with_reducible refine g_not (fun _ => ?_) (fun _ => ?_) | with_reducible refine g_split (fun _ => ?_) (fun _ => ?_) | with_reducible refine px_dec (fun _ => ?_) (fun _ => ?_) | with_reducible refine px_ndec (fun _ => ?_) (fun _ => ?_) | with_reducible refine px_split (fun _ => ?_) (fun _ => ?_) | with_reducible refine callS hcl (fun v' hv => ?_) | simp -implicitDefEqProofs (maxSteps := 2000000) (disch := first | assumption | omega) [*, ])
      exact ⟨_, rfl⟩
    · obtain ⟨_, rfl, rfl⟩ := hsc.resolve_left h3
      rw [rdShort_err hx h3]
      have hcl := take_ok (n := 0) (at_app hs [.cells [.int .i64 0]]) (S1 := s ++ [.cells [.int .i64 0]]) (at_app hs _) hle hb (by simpa using hc)
      simp only [h3, if_false] at hcl
      clear hx hsc hc
      refine aCalls_go Tryz.func25 rfl (by decide) Tryz.ntmps25 (by simp) false ?_
      have hres : Tryz.f25.results = #[.tmp 2] := rfl
      repeat' (first | with_reducible refine br_t ?_ | with_reducible refine br_f ?_ | with_reducible refine br_dec (fun _ => ?_) (fun _ => ?_) | with_reducible refine g_dec (fun _ => ?_) (fun _ => ?_) | with_reducible refine g_ndec (fun _ => ?_) (fun _ => ?_) | with_reducible refine br_not (fun _ => ?_) (fun _ => ?_) | with_reducible refine br_split (fun _ => ?_) (fun _ => ?_) | with_reducible refine g_not (fun _ => ?_) (fun _ => ?_) | with_reducible refine g_split (fun _ => ?_) (fun _ => ?_) | with_reducible refine px_dec (fun _ => ?_) (fun _ => ?_) | with_reducible refine px_ndec (fun _ => ?_) (fun _ => ?_) | with_reducible refine px_split (fun _ => ?_) (fun _ => ?_) | with_reducible refine callS hcl (fun v' hv => ?_) | simp -implicitDefEqProofs (maxSteps := 2000000) (disch := first | assumption | omega) [*, ])
      exact ⟨_, rfl⟩
  · have hcl := take_no (g := 58) (ca := [.ptr s.length 0]) (v := v) (at_app hs [.cells [.int .i64 0]]) he
    have hsame := set_same hs
    rw [rdShort_no he]
    refine aCalls_go Tryz.func25 rfl (by decide) Tryz.ntmps25 (by simp) false ?_
    have hres : Tryz.f25.results = #[.tmp 2] := rfl
    repeat' (first | with_reducible refine br_t ?_ | with_reducible refine br_f ?_ | with_reducible refine br_dec (fun _ => ?_) (fun _ => ?_) | with_reducible refine g_dec (fun _ => ?_) (fun _ => ?_) | with_reducible refine g_ndec (fun _ => ?_) (fun _ => ?_) | with_reducible refine br_not (fun _ => ?_) (fun _ => ?_) | with_reducible refine br_split (fun _ => ?_) (fun _ => ?_) | with_reducible refine g_not (fun _ => ?_) (fun _ => ?_) | with_reducible refine g_split (fun _ => ?_) (fun _ => ?_) | with_reducible refine px_dec (fun _ => ?_) (fun _ => ?_) | with_reducible refine px_ndec (fun _ => ?_) (fun _ => ?_) | with_reducible refine px_split (fun _ => ?_) (fun _ => ?_) | with_reducible refine callT hcl ?_ | simp -implicitDefEqProofs (maxSteps := 2000000) (disch := first | assumption | omega) [*, ])
end Go.Hb
end

section
namespace Go.Hb
open Go Go.Proofs Go.RowKit
set_option maxRecDepth 100000
set_option maxHeartbeats 800000
attribute [-simp] aC aL aOper aThen aInBlock aIf aPlan aAppend aLen aIndexAddr aSlice aCells aBounds lBr aq initT aev aAppendOwn aAppendNil aAppendNew aAppendRef LV.cells LV.cellsOk getElem?_pos getElem?_neg

def SgC (x n : Nat) (e w : Int) (m : Nat) (e' : Int) : Prop := (e ≠ 0 ∧ x = 0 ∧ n = 0 ∧ w = 0 ∧ m = 0 ∧ e' = e) ∨ (e = 0 ∧ 2305843009213693952 ≤ x / 2 ∧ w = 0 ∧ m = 0 ∧ e' = 3) ∨ (e = 0 ∧ ¬ 2305843009213693952 ≤ x / 2 ∧ x % 2 = 1 ∧ w = -1 - ((x / 2 : Nat) : Int) ∧ m = n ∧ e' = 0) ∨ (e = 0 ∧ ¬ 2305843009213693952 ≤ x / 2 ∧ ¬ x % 2 = 1 ∧ w = ((x / 2 : Nat) : Int) ∧ m = n ∧ e' = 0)
theorem signed1_c {s : List AObj} {idv : Nat} {l : List UInt8} {v : List Nat} {x n m : Nat} {e e' w : Int} (hl : l.length ≤ 9223372036854775807) (hs : s[idv]? = some (.cells [.int .i64 0])) (hx : scan l 0 0 = (x, n, e)) (hc : SgC x n e w m e') :
    aCalls Tryz.prog 78 (row l :: [.ptr idv 0]) s v fun y s1 v1 => .tup [.int .i64 (m : Int), .int .i64 e'] = y ∧ s.set idv (.cells [.int .i64 w]) = s1 ∧ v <+: v1 := by
  have hid := (List.getElem?_eq_some_iff.1 hs).1
  have h := short_p hl
  have hlt := scan_lt (l := l) (i := 0) (v := 0) (by omega) (by simp)
  have e9 : (128 : Nat) ^ 9 = 9223372036854775808 := by decide
  have hsame := set_same hs
  rw [hx] at h hlt
  rw [e9] at hlt
  simp only at h hlt
  clear hx e9
  rcases hc with ⟨h1, rfl, rfl, rfl, rfl, rfl⟩ | ⟨rfl, h2, rfl, rfl, rfl⟩ | ⟨rfl, h2, h3, rfl, rfl, rfl⟩ | ⟨rfl, h2, h3, rfl, rfl, rfl⟩
  · refine aCalls_go Tryz.func78 rfl (by decide) Tryz.ntmps78 (by simp) false ?_
    have hres : Tryz.f78.results = #[.tmp 3, .tmp 4] := rfl
    repeat' (first | with_reducible refine br_t ?_ | with_reducible refine br_f ?_ | with_reducible refine br_dec (fun _ => ?_) (fun _ => ?_) | with_reducible refine g_dec (fun _ => ?_) (fun _ => ?_) | with_reducible refine g_ndec (fun _ => ?_) (fun _ => ?_) | with_reducible refine br_not (fun _ => ?_) (fun _ => ?_) | with_reducible refine br_split (fun _ => ?_) (fun _ => ?_) | with_reducible refine g_not (fun _ => ?_) (fun _ => ?_) | with_reducible refine g_split (fun _ => ?_) (fun _ => ?_) | with_reducible refine px_dec (fun _ => ?_) (fun _ => ?_) | with_reducible refine px_ndec (fun _ => ?_) (fun _ => ?_) | with_reducible refine px_split (fun _ => ?_) (fun _ => ?_) | with_reducible refine callE h ?_ | simp -implicitDefEqProofs (maxSteps := 2000000) (disch := first | assumption | omega) [*, ])
  · have hq : (x : Int).tdiv 2 = ((x / 2 : Nat) : Int) := by rw [Int.tdiv_eq_ediv_of_nonneg (by omega)]; omega
    have hqb : x / 2 ≤ 4611686018427387904 := by omega
    generalize x / 2 = q at *
    refine aCalls_go Tryz.func78 rfl (by decide) Tryz.ntmps78 (by simp) false ?_
    have hres : Tryz.f78.results = #[.tmp 3, .tmp 4] := rfl
    repeat' (first | with_reducible refine br_t ?_ | with_reducible refine br_f ?_ | with_reducible refine br_dec (fun _ => ?_) (fun _ => ?_) | with_reducible refine g_dec (fun _ => ?_) (fun _ => ?_) | with_reducible refine g_ndec (fun _ => ?_) (fun _ => ?_) | with_reducible refine br_not (fun _ => ?_) (fun _ => ?_) | with_reducible refine br_split (fun _ => ?_) (fun _ => ?_) | with_reducible refine g_not (fun _ => ?_) (fun _ => ?_) | with_reducible refine g_split (fun _ => ?_) (fun _ => ?_) | with_reducible refine px_dec (fun _ => ?_) (fun _ => ?_) | with_reducible refine px_ndec (fun _ => ?_) (fun _ => ?_) | with_reducible refine px_split (fun _ => ?_) (fun _ => ?_) | with_reducible refine callE h ?_ | simp -implicitDefEqProofs (maxSteps := 2000000) (disch := first | assumption | omega) [*, ])
    all_goals first | (exfalso; omega) | skip
  · have hq : (x : Int).tdiv 2 = ((x / 2 : Nat) : Int) := by rw [Int.tdiv_eq_ediv_of_nonneg (by omega)]; omega
    have hr : (x : Int).tmod 2 = 1 := by rw [Int.tmod_eq_emod_of_nonneg (by omega)]; omega
    have hqb : x / 2 ≤ 4611686018427387904 := by omega
    generalize x / 2 = q at *
    have hw : -((q : Int) + 1) = -1 - (q : Int) := by omega
    clear h3
    refine aCalls_go Tryz.func78 rfl (by decide) Tryz.ntmps78 (by simp) false ?_
    have hres : Tryz.f78.results = #[.tmp 3, .tmp 4] := rfl
    repeat' (first | with_reducible refine br_t ?_ | with_reducible refine br_f ?_ | with_reducible refine br_dec (fun _ => ?_) (fun _ => ?_) | with_reducible refine g_dec (fun _ => ?_) (fun _ => ?_) | with_reducible refine g_ndec (fun _ => ?_) (fun _ => ?_) | with_reducible refine br_not (fun _ => ?_) (fun _ => ?_) | with_reducible refine br_split (fun _ => ?_) (fun _ => ?_) | with_reducible refine g_not (fun _ => ?_) (fun _ => ?_) | with_reducible refine g_split (fun _ => ?_) (fun _ => ?_) | with_reducible refine px_dec (fun _ => ?_) (fun _ => ?_) | with_reducible refine px_ndec (fun _ => ?_) (fun _ => ?_) | with_reducible refine px_split (fun _ => ?_) (fun _ => ?_) | with_reducible refine callE h ?_ | simp -implicitDefEqProofs (maxSteps := 2000000) (disch := first | assumption | omega) [*, ])
    all_goals first | (exfalso; omega) | skip
  · have hq : (x : Int).tdiv 2 = ((x / 2 : Nat) : Int) := by rw [Int.tdiv_eq_ediv_of_nonneg (by omega)]; omega
    have hr : (x : Int).tmod 2 = 0 := by rw [Int.tmod_eq_emod_of_nonneg (by omega)]; omega
    have hqb : x / 2 ≤ 4611686018427387904 := by omega
    generalize x / 2 = q at *
    clear h3
    refine aCalls_go Tryz.func78 rfl (by decide) Tryz.ntmps78 (by simp) false ?_
    have hres : Tryz.f78.results = #[.tmp 3, .tmp 4] := rfl
    repeat' (first | with_reducible refine br_t ?_ | with_reducible refine br_f ?_ | with_reducible refine br_dec (fun _ => ?_) (fun _ => ?_) | with_reducible refine g_dec (fun _ => ?_) (fun _ => ?_) | with_reducible refine g_ndec (fun _ => ?_) (fun _ => ?_) | with_reducible refine br_not (fun _ => ?_) (fun _ => ?_) | with_reducible refine br_split (fun _ => ?_) (fun _ => ?_) | with_reducible refine g_not (fun _ => ?_) (fun _ => ?_) | with_reducible refine g_split (fun _ => ?_) (fun _ => ?_) | with_reducible refine px_dec (fun _ => ?_) (fun _ => ?_) | with_reducible refine px_ndec (fun _ => ?_) (fun _ => ?_) | with_reducible refine px_split (fun _ => ?_) (fun _ => ?_) | with_reducible refine callE h ?_ | simp -implicitDefEqProofs (maxSteps := 2000000) (disch := first | assumption | omega) [*, ])
    all_goals first | (exfalso; omega) | skip
theorem rSigned_c {s : List AObj} {id : Nat} {b : List UInt8} {r : RS} {v : List Nat} (hs : s[id]? = some (.cells (rdO b r))) (hr : ROk b r) (hb : b.length ≤ 4611686018427387904) :
    aCalls Tryz.prog 57 [.ptr id 0] s v (RPost s id b v (rdSigned b r).1 (.int .i64 (rdSigned b r).2)) := by
  refine RPost.of (by simp) ?_
  have hset := at_set hs
  have hg0 := set_get0 (s := s) (id := id)
  by_cases he : r.e = 0
  · obtain ⟨ra, re⟩ := r
    simp only at he
    subst he
    have hle := hr.1
    simp only at hle
    obtain ⟨⟨x, n, e⟩, hx⟩ : ∃ x, sc b ⟨ra, 0⟩ = x := ⟨_, rfl⟩
    have hsc := sc_err (b := b) (r := ⟨ra, 0⟩)
    rw [hx] at hsc
    simp only at hsc
    obtain ⟨w, m, e', hc, hm, hrd⟩ : ∃ w m e', SgC x n e w m e' ∧ ra + m ≤ b.length ∧ rdSigned b ⟨ra, 0⟩ = (⟨if e' = 0 then ra + m else ra, e'⟩, w) := by
      by_cases h3 : e = 0
      · subst h3
        have hln := (sc_len hr (by rw [hx])).2
        rw [hx] at hln
        simp only at hln
        by_cases h4 : 2305843009213693952 ≤ x / 2
        · exact ⟨0, 0, 3, .inr (.inl ⟨rfl, h4, rfl, rfl, rfl⟩), by omega, by rw [rdSigned_big hx h4]; simp⟩
        · by_cases h5 : x % 2 = 1
          · exact ⟨_, n, 0, .inr (.inr (.inl ⟨rfl, h4, h5, rfl, rfl, rfl⟩)), hln, by rw [rdSigned_odd hx h4 h5]; simp⟩
          · exact ⟨_, n, 0, .inr (.inr (.inr ⟨rfl, h4, h5, rfl, rfl, rfl⟩)), hln, by rw [rdSigned_even hx h4 h5]; simp⟩
      · obtain ⟨_, rfl, rfl⟩ := hsc.resolve_left h3
        exact ⟨0, 0, e, .inl ⟨h3, rfl, rfl, rfl, rfl, rfl⟩, by omega, by rw [rdSigned_err hx h3]; simp [h3]⟩
    rw [hrd]
    have hc := signed1_c (s := s ++ [.cells [.int .i64 0]]) (idv := s.length) (l := b.drop ra) (v := v) (by simp; omega) (by simp) hx hc
    have hcl := take_ok (n := m) (at_app hs [.cells [.int .i64 0]]) (S1 := s ++ [.cells [.int .i64 w]]) (at_app hs _) hm hb (by simpa using hc)
    clear hx hsc hc hrd
    by_cases h3 : e' = 0
    · subst h3
      simp only [if_true] at hcl
      refine aCalls_go Tryz.func57 rfl (by decide) Tryz.ntmps57 (by simp) false ?_
      have hres : Tryz.f57.results = #[.tmp 2] := rfl
      repeat' (first | with_reducible refine br_t ?_ | with_reducible refine br_f ?_ | with_reducible refine br_dec (fun _ => ?_) (fun _ => ?_) | with_reducible refine g_dec (fun _ => ?_) (fun _ => ?_) | with_reducible refine g_ndec (fun _ => ?_) (fun _ => ?_) | with_reducible refine br_not (fun _ => ?_) (fun _ => ?_) | with_reducible refine br_split (fun _ => ?_) (fun _ => ?_) | with_reducible refine g_not (fun _ => ?_) (fun _ => ?_) | with_reducible refine g_split (fun _ => ?_) (fun _ => ?_) | with_reducible refine px_dec (fun _ => ?_) (fun _ => ?_) | with_reducible refine px_ndec (fun _ => ?_) (fun _ => ?_) | with_reducible refine px_split (fun _ => ?_) (fun _ => ?_) | with_reducible refine callS hcl (fun v' hv => ?_) | simp -implicitDefEqProofs (maxSteps := 2000000) (disch := first | assumption | omega) [*, ])
      exact ⟨_, rfl⟩
    · simp only [h3, if_false] at hcl
      refine aCalls_go Tryz.func57 rfl (by decide) Tryz.ntmps57 (by simp) false ?_
      have hres : Tryz.f57.results = #[.tmp 2] := rfl
      repeat' (first | with_reducible refine br_t ?_ | with_reducible refine br_f ?_ | with_reducible refine br_dec (fun _ => ?_) (fun _ => ?_) | with_reducible refine g_dec (fun _ => ?_) (fun _ => ?_) | with_reducible refine g_ndec (fun _ => ?_) (fun _ => ?_) | with_reducible refine br_not (fun _ => ?_) (fun _ => ?_) | with_reducible refine br_split (fun _ => ?_) (fun _ => ?_) | with_reducible refine g_not (fun _ => ?_) (fun _ => ?_) | with_reducible refine g_split (fun _ => ?_) (fun _ => ?_) | with_reducible refine px_dec (fun _ => ?_) (fun _ => ?_) | with_reducible refine px_ndec (fun _ => ?_) (fun _ => ?_) | with_reducible refine px_split (fun _ => ?_) (fun _ => ?_) | with_reducible refine callS hcl (fun v' hv => ?_) | simp -implicitDefEqProofs (maxSteps := 2000000) (disch := first | assumption | omega) [*, ])
      exact ⟨_, rfl⟩
  · have hcl := take_no (g := 78) (ca := [.ptr s.length 0]) (v := v) (at_app hs [.cells [.int .i64 0]]) he
    have hsame := set_same hs
    rw [rdSigned_no he]
    refine aCalls_go Tryz.func57 rfl (by decide) Tryz.ntmps57 (by simp) false ?_
    have hres : Tryz.f57.results = #[.tmp 2] := rfl
    repeat' (first | with_reducible refine br_t ?_ | with_reducible refine br_f ?_ | with_reducible refine br_dec (fun _ => ?_) (fun _ => ?_) | with_reducible refine g_dec (fun _ => ?_) (fun _ => ?_) | with_reducible refine g_ndec (fun _ => ?_) (fun _ => ?_) | with_reducible refine br_not (fun _ => ?_) (fun _ => ?_) | with_reducible refine br_split (fun _ => ?_) (fun _ => ?_) | with_reducible refine g_not (fun _ => ?_) (fun _ => ?_) | with_reducible refine g_split (fun _ => ?_) (fun _ => ?_) | with_reducible refine px_dec (fun _ => ?_) (fun _ => ?_) | with_reducible refine px_ndec (fun _ => ?_) (fun _ => ?_) | with_reducible refine px_split (fun _ => ?_) (fun _ => ?_) | with_reducible refine callT hcl ?_ | simp -implicitDefEqProofs (maxSteps := 2000000) (disch := first | assumption | omega) [*, ])

def LsC (most rest x n : Nat) (e : Int) (w m : Nat) (e' : Int) : Prop := (e ≠ 0 ∧ x = 0 ∧ n = 0 ∧ w = 0 ∧ m = 0 ∧ e' = e) ∨ (e = 0 ∧ most < x ∧ w = 0 ∧ m = 0 ∧ e' = 3) ∨ (e = 0 ∧ ¬ most < x ∧ n ≤ rest ∧ rest < n + x ∧ w = 0 ∧ m = 0 ∧ e' = 2) ∨ (e = 0 ∧ ¬ most < x ∧ n ≤ rest ∧ ¬ rest < n + x ∧ w = x ∧ m = n ∧ e' = 0)
theorem list1_c {s : List AObj} {idm idv most : Nat} {l : List UInt8} {v : List Nat} {x n w m : Nat} {e e' : Int} (hl : l.length ≤ 4611686018427387904) (hs0 : s[idm]? = some (.cells [.int .i64 (most : Int)])) (hs : s[idv]? = some (.cells [.int .i64 0])) (hne : idm ≠ idv) (hx : scan l 0 0 = (x, n, e)) (hc : LsC most l.length x n e w m e') :
    aCalls Tryz.prog 54 (row l :: [.ptr idm 0, .ptr idv 0]) s v fun y s1 v1 => .tup [.int .i64 (m : Int), .int .i64 e'] = y ∧ s.set idv (.cells [.int .i64 (w : Int)]) = s1 ∧ v <+: v1 := by
  have hid := (List.getElem?_eq_some_iff.1 hs).1
  have h := short_p (l := l) (by omega)
  have hlt := scan_lt (l := l) (i := 0) (v := 0) (by omega) (by simp)
  have e9 : (128 : Nat) ^ 9 = 9223372036854775808 := by decide
  have hsame := set_same hs
  rw [hx] at h hlt
  rw [e9] at hlt
  simp only at h hlt
  clear hx e9
  rcases hc with ⟨h1, rfl, rfl, rfl, rfl, rfl⟩ | ⟨rfl, h2, rfl, rfl, rfl⟩ | ⟨rfl, h2, h3, h4, rfl, rfl, rfl⟩ | ⟨rfl, h2, h3, h4, rfl, rfl, rfl⟩
  all_goals
    refine aCalls_go Tryz.func54 rfl (by decide) Tryz.ntmps54 (by simp) false ?_
    have hres : Tryz.f54.results = #[.tmp 4, .tmp 5] := rfl
    repeat' (first | with_reducible refine br_t ?_ | with_reducible refine br_f ?_ | with_reducible refine br_dec (fun _ => ?_) (fun _ => ?_) | with_reducible refine g_dec (fun _ => ?_) (fun _ => ?_) | with_reducible refine g_ndec (fun _ => ?_) (fun _ => ?_) | with_reducible refine br_not (fun _ => ?_) (fun _ => ?_) | with_reducible refine br_split (fun _ => ?_) (fun _ => ?_) | with_reducible refine g_not (fun _ => ?_) (fun _ => ?_) | with_reducible refine g_split (fun _ => ?_) (fun _ => ?_) | with_reducible refine px_dec (fun _ => ?_) (fun _ => ?_) | with_reducible refine px_ndec (fun _ => ?_) (fun _ => ?_) | with_reducible refine px_split (fun _ => ?_) (fun _ => ?_) | with_reducible refine callE h ?_ | simp -implicitDefEqProofs (maxSteps := 2000000) (disch := first | assumption | omega) [*, ])
    all_goals first | (exfalso; omega) | skip
theorem rList_c {s : List AObj} {id most : Nat} {b : List UInt8} {r : RS} {v : List Nat} (hs : s[id]? = some (.cells (rdO b r))) (hr : ROk b r) (hb : b.length ≤ 4611686018427387904) (hmost : most ≤ 1000) :
    aCalls Tryz.prog 23 [.ptr id 0, .int .i64 (most : Int)] s v (RPost s id b v (rdList b most r).1 (.int .i64 ((rdList b most r).2 : Int))) := by
  refine RPost.of (by simp) ?_
  have hset := at_set hs
  have hg0 := set_get0 (s := s) (id := id)
  have hg1 := set_get (s := s) (id := id)
  by_cases he : r.e = 0
  · obtain ⟨ra, re⟩ := r
    simp only at he
    subst he
    have hle := hr.1
    simp only at hle
    obtain ⟨⟨x, n, e⟩, hx⟩ : ∃ x, sc b ⟨ra, 0⟩ = x := ⟨_, rfl⟩
    have hsc := sc_err (b := b) (r := ⟨ra, 0⟩)
    rw [hx] at hsc
    simp only at hsc
    obtain ⟨w, m, e', hc, hm, hrd⟩ : ∃ w m e', LsC most (b.length - ra) x n e w m e' ∧ ra + m ≤ b.length ∧ rdList b most ⟨ra, 0⟩ = (⟨if e' = 0 then ra + m else ra, e'⟩, w) := by
      by_cases h3 : e = 0
      · subst h3
        have hln := (sc_len hr (by rw [hx])).2
        rw [hx] at hln
        simp only at hln
        by_cases h4 : most < x
        · exact ⟨0, 0, 3, .inr (.inl ⟨rfl, h4, rfl, rfl, rfl⟩), by omega, by rw [rdList_big hx h4]; simp⟩
        · by_cases h5 : b.length < ra + n + x
          · exact ⟨0, 0, 2, .inr (.inr (.inl ⟨rfl, h4, by omega, by omega, rfl, rfl, rfl⟩)), by omega, by rw [rdList_few hx h4 h5]; simp⟩
          · exact ⟨x, n, 0, .inr (.inr (.inr ⟨rfl, h4, by omega, by omega, rfl, rfl, rfl⟩)), hln, by rw [rdList_yes hx h4 h5]; simp⟩
      · obtain ⟨_, rfl, rfl⟩ := hsc.resolve_left h3
        exact ⟨0, 0, e, .inl ⟨h3, rfl, rfl, rfl, rfl, rfl⟩, by omega, by rw [rdList_err hx h3]; simp [h3]⟩
    rw [hrd]
    have hc := list1_c (s := s ++ [.cells [.int .i64 (most : Int)], .cells [.int .i64 0]]) (idm := s.length) (idv := s.length + 1) (most := most) (l := b.drop ra) (v := v) (by simp; omega) (by simp) (by simp [get_app]) (by omega) hx (by rw [List.length_drop]; exact hc)
    have hcl := take_ok (n := m) (at_app hs [.cells [.int .i64 (most : Int)], .cells [.int .i64 0]]) (S1 := s ++ [.cells [.int .i64 (most : Int)], .cells [.int .i64 (w : Int)]]) (at_app hs _) hm hb (by simpa [set_app] using hc)
    clear hx hsc hc hrd
    by_cases h3 : e' = 0
    · subst h3
      simp only [if_true] at hcl
      refine aCalls_go Tryz.func23 rfl (by decide) Tryz.ntmps23 (by simp) false ?_
      have hres : Tryz.f23.results = #[.tmp 4] := rfl
      repeat' (first | with_reducible refine br_t ?_ | with_reducible refine br_f ?_ | with_reducible refine br_dec (fun _ => ?_) (fun _ => ?_) | with_reducible refine g_dec (fun _ => ?_) (fun _ => ?_) | with_reducible refine g_ndec (fun _ => ?_) (fun _ => ?_) | with_reducible refine br_not (fun _ => ?_) (fun _ => ?_) | with_reducible refine br_split (fun _ => ?_) (fun _ => ?_) | with_reducible refine g_not (fun _ => ?_) (fun _ => ?_) | with_reducible refine g_split (fun _ => ?_) (fun _ => ?_) | with_reducible refine px_dec (fun _ => ?_) (fun _ => ?_) | with_reducible refine px_ndec (fun _ => ?_) (fun _ => ?_) | with_reducible refine px_split (fun _ => ?_) (fun _ => ?_) | with_reducible refine callS hcl (fun v' hv => ?_) | simp -implicitDefEqProofs (maxSteps := 2000000) (disch := first | assumption | omega) [*, ])
      exact ⟨_, rfl⟩
    · simp only [h3, if_false] at hcl
      refine aCalls_go Tryz.func23 rfl (by decide) Tryz.ntmps23 (by simp) false ?_
      have hres : Tryz.f23.results = #[.tmp 4] := rfl
      repeat' (first | with_reducible refine br_t ?_ | with_reducible refine br_f ?_ | with_reducible refine br_dec (fun _ => ?_) (fun _ => ?_) | with_reducible refine g_dec (fun _ => ?_) (fun _ => ?_) | with_reducible refine g_ndec (fun _ => ?_) (fun _ => ?_) | with_reducible refine br_not (fun _ => ?_) (fun _ => ?_) | with_reducible refine br_split (fun _ => ?_) (fun _ => ?_) | with_reducible refine g_not (fun _ => ?_) (fun _ => ?_) | with_reducible refine g_split (fun _ => ?_) (fun _ => ?_) | with_reducible refine px_dec (fun _ => ?_) (fun _ => ?_) | with_reducible refine px_ndec (fun _ => ?_) (fun _ => ?_) | with_reducible refine px_split (fun _ => ?_) (fun _ => ?_) | with_reducible refine callS hcl (fun v' hv => ?_) | simp -implicitDefEqProofs (maxSteps := 2000000) (disch := first | assumption | omega) [*, ])
      exact ⟨_, rfl⟩
  · have hcl := take_no (g := 54) (ca := [.ptr s.length 0, .ptr (s.length + 1) 0]) (v := v) (at_app hs [.cells [.int .i64 (most : Int)], .cells [.int .i64 0]]) he
    have hsame := set_same hs
    rw [rdList_no he]
    refine aCalls_go Tryz.func23 rfl (by decide) Tryz.ntmps23 (by simp) false ?_
    have hres : Tryz.f23.results = #[.tmp 4] := rfl
    repeat' (first | with_reducible refine br_t ?_ | with_reducible refine br_f ?_ | with_reducible refine br_dec (fun _ => ?_) (fun _ => ?_) | with_reducible refine g_dec (fun _ => ?_) (fun _ => ?_) | with_reducible refine g_ndec (fun _ => ?_) (fun _ => ?_) | with_reducible refine br_not (fun _ => ?_) (fun _ => ?_) | with_reducible refine br_split (fun _ => ?_) (fun _ => ?_) | with_reducible refine g_not (fun _ => ?_) (fun _ => ?_) | with_reducible refine g_split (fun _ => ?_) (fun _ => ?_) | with_reducible refine px_dec (fun _ => ?_) (fun _ => ?_) | with_reducible refine px_ndec (fun _ => ?_) (fun _ => ?_) | with_reducible refine px_split (fun _ => ?_) (fun _ => ?_) | with_reducible refine callT hcl ?_ | simp -implicitDefEqProofs (maxSteps := 2000000) (disch := first | assumption | omega) [*, ])
end Go.Hb
end

section
namespace Go.Hb
open Go Go.Proofs Go.RowKit
set_option maxRecDepth 100000
set_option maxHeartbeats 800000
attribute [-simp] aC aL aOper aThen aInBlock aIf aPlan aAppend aLen aIndexAddr aSlice aCells aBounds lBr aq initT aev aAppendOwn aAppendNil aAppendNew aAppendRef LV.cells LV.cellsOk getElem?_pos getElem?_neg

theorem cloneB_f {l : List UInt8} (hb : l.length ≤ 90000000) : Fresh Tryz.prog 52 [row l] l := by
  refine .of fun s v => ?_
  by_cases hl : l = []
  · subst hl
    refine aCalls_emp ?_ ?_
    · refine aCalls_go Tryz.func52 rfl (by decide) Tryz.ntmps52 (by simp) false ?_
      have hres : Tryz.f52.results = #[.tmp 2] := rfl
      repeat' (first | with_reducible refine br_t ?_ | with_reducible refine br_f ?_ | with_reducible refine br_dec (fun _ => ?_) (fun _ => ?_) | with_reducible refine g_dec (fun _ => ?_) (fun _ => ?_) | with_reducible refine g_ndec (fun _ => ?_) (fun _ => ?_) | with_reducible refine br_not (fun _ => ?_) (fun _ => ?_) | with_reducible refine br_split (fun _ => ?_) (fun _ => ?_) | with_reducible refine g_not (fun _ => ?_) (fun _ => ?_) | with_reducible refine g_split (fun _ => ?_) (fun _ => ?_) | with_reducible refine px_dec (fun _ => ?_) (fun _ => ?_) | with_reducible refine px_ndec (fun _ => ?_) (fun _ => ?_) | with_reducible refine px_split (fun _ => ?_) (fun _ => ?_) | simp -implicitDefEqProofs (maxSteps := 2000000) (disch := first | assumption | omega) [*, ])
      exact ⟨_, GroC.nil _ _, trivial, rfl⟩
    · obtain ⟨x', v', hx', _, ha⟩ := GroC.app (P := Tryz.prog) (t := 22) (t2 := 22) (sz := 1) (by_ := 1) (v0 := v) (v := v) (n := 0) (m := 0) (cs := []) (ds := []) (x := .imm 1 0 [] .full) (by kernel_rfl) ⟨List.prefix_refl _, .inl ⟨rfl, rfl, .inr rfl⟩⟩ (fun _ => rfl) (by unfold maxLen; omega) (by omega)
      replace ha := fun s => ha (.emp 1) s (by simp [aCells])
      have hg : Gro v v' ([] : List UInt8) x' := GroE.gro (by unfold GroE; simpa using hx')
      have hxc := hg.cells
      refine aCalls_go Tryz.func52 rfl (by decide) Tryz.ntmps52 (by simp) false ?_
      have hres : Tryz.f52.results = #[.tmp 2] := rfl
      repeat' (first | with_reducible refine br_t ?_ | with_reducible refine br_f ?_ | with_reducible refine br_dec (fun _ => ?_) (fun _ => ?_) | with_reducible refine g_dec (fun _ => ?_) (fun _ => ?_) | with_reducible refine g_ndec (fun _ => ?_) (fun _ => ?_) | with_reducible refine br_not (fun _ => ?_) (fun _ => ?_) | with_reducible refine br_split (fun _ => ?_) (fun _ => ?_) | with_reducible refine g_not (fun _ => ?_) (fun _ => ?_) | with_reducible refine g_split (fun _ => ?_) (fun _ => ?_) | with_reducible refine px_dec (fun _ => ?_) (fun _ => ?_) | with_reducible refine px_ndec (fun _ => ?_) (fun _ => ?_) | with_reducible refine px_split (fun _ => ?_) (fun _ => ?_) | simp -implicitDefEqProofs (maxSteps := 2000000) (disch := first | assumption | omega) [*, ])
  · have h0 : l.length ≠ 0 := fun h => hl (List.length_eq_zero_iff.1 h)
    obtain ⟨x', v', hx', _, ha⟩ := GroC.app (P := Tryz.prog) (t := 22) (t2 := 22) (sz := 1) (by_ := 1) (v0 := v) (v := v) (n := 0) (m := l.length) (cs := []) (ds := rowCs l) (x := .imm 1 0 [] .full) (by kernel_rfl) ⟨List.prefix_refl _, .inl ⟨rfl, rfl, .inr rfl⟩⟩ (fun h => absurd h h0) (by unfold maxLen; omega) (by omega)
    have ha := fun s => ha (row l) s (by simp)
    have hg : Gro v v' l x' := GroE.gro (by unfold GroE; simpa using hx')
    have hxc := hg.cells
    show aCalls Tryz.prog 52 [.imm 1 l.length (rowCs l) .no] s v _
    replace ha : ∀ s, aAppend Tryz.prog 22 22 (.imm 1 0 [] .full) (.imm 1 l.length (rowCs l) .no) s v = some (x', v') := ha
    refine aCalls_go Tryz.func52 rfl (by decide) Tryz.ntmps52 (by simp) false ?_
    have hres : Tryz.f52.results = #[.tmp 2] := rfl
    repeat' (first | with_reducible refine br_t ?_ | with_reducible refine br_f ?_ | with_reducible refine br_dec (fun _ => ?_) (fun _ => ?_) | with_reducible refine g_dec (fun _ => ?_) (fun _ => ?_) | with_reducible refine g_ndec (fun _ => ?_) (fun _ => ?_) | with_reducible refine br_not (fun _ => ?_) (fun _ => ?_) | with_reducible refine br_split (fun _ => ?_) (fun _ => ?_) | with_reducible refine g_not (fun _ => ?_) (fun _ => ?_) | with_reducible refine g_split (fun _ => ?_) (fun _ => ?_) | with_reducible refine px_dec (fun _ => ?_) (fun _ => ?_) | with_reducible refine px_ndec (fun _ => ?_) (fun _ => ?_) | with_reducible refine px_split (fun _ => ?_) (fun _ => ?_) | simp -implicitDefEqProofs (maxSteps := 2000000) (disch := first | assumption | omega) [*, ])
theorem newReader_c {b : List UInt8} {s : List AObj} {v : List Nat} (hb : b.length ≤ 90000000) :
    aCalls Tryz.prog 22 [row b] s v fun y s' v' => .ptr s.length 0 = y ∧ s ++ [.cells (rdO b ⟨0, 0⟩)] = s' ∧ v <+: v' := by
  have hc := (cloneB_f hb).pure
  refine aCalls_go Tryz.func22 rfl (by decide) Tryz.ntmps22 (by simp) false ?_
  have hres : Tryz.f22.results = #[.tmp 2] := rfl
  repeat' (first | with_reducible refine br_t ?_ | with_reducible refine br_f ?_ | with_reducible refine br_dec (fun _ => ?_) (fun _ => ?_) | with_reducible refine g_dec (fun _ => ?_) (fun _ => ?_) | with_reducible refine g_ndec (fun _ => ?_) (fun _ => ?_) | with_reducible refine br_not (fun _ => ?_) (fun _ => ?_) | with_reducible refine br_split (fun _ => ?_) (fun _ => ?_) | with_reducible refine g_not (fun _ => ?_) (fun _ => ?_) | with_reducible refine g_split (fun _ => ?_) (fun _ => ?_) | with_reducible refine px_dec (fun _ => ?_) (fun _ => ?_) | with_reducible refine px_ndec (fun _ => ?_) (fun _ => ?_) | with_reducible refine px_split (fun _ => ?_) (fun _ => ?_) | with_reducible refine callC hc (fun v' hv => ?_) | simp -implicitDefEqProofs (maxSteps := 2000000) (disch := first | assumption | omega) [*, ])
  rfl
theorem raw1_c {s : List AObj} {idn ido : Nat} {l : List UInt8} {v : List Nat} (hl : l.length ≤ 4611686018427387904) (hs0 : s[idn]? = some (.cells [.int .i64 1])) (hs : s[ido]? = some (.cells [.nils])) :
    aCalls Tryz.prog 89 (row l :: [.ptr idn 0, .ptr ido 0]) s v fun y s1 v1 => .tup [.int .i64 ((if l = [] then 0 else 1 : Nat) : Int), .int .i64 (if l = [] then 2 else 0)] = y ∧ (if l = [] then s else s.set ido (.cells [row (l.take 1)])) = s1 ∧ v <+: v1 := by
  have hid := (List.getElem?_eq_some_iff.1 hs).1
  by_cases h0 : l = []
  · subst h0
    refine aCalls_go Tryz.func89 rfl (by decide) Tryz.ntmps89 (by simp) false ?_
    have hres : Tryz.f89.results = #[.tmp 4, .tmp 5] := rfl
    repeat' (first | with_reducible refine br_t ?_ | with_reducible refine br_f ?_ | with_reducible refine br_dec (fun _ => ?_) (fun _ => ?_) | with_reducible refine g_dec (fun _ => ?_) (fun _ => ?_) | with_reducible refine g_ndec (fun _ => ?_) (fun _ => ?_) | with_reducible refine br_not (fun _ => ?_) (fun _ => ?_) | with_reducible refine br_split (fun _ => ?_) (fun _ => ?_) | with_reducible refine g_not (fun _ => ?_) (fun _ => ?_) | with_reducible refine g_split (fun _ => ?_) (fun _ => ?_) | with_reducible refine px_dec (fun _ => ?_) (fun _ => ?_) | with_reducible refine px_ndec (fun _ => ?_) (fun _ => ?_) | with_reducible refine px_split (fun _ => ?_) (fun _ => ?_) | simp -implicitDefEqProofs (maxSteps := 2000000) (disch := first | assumption | omega) [*, ])
  · have hc := (cloneB_f (l := l.take 1) (by simp; omega)).pure
    have hl1 : 1 ≤ l.length := by
      cases l with
      | nil => exact absurd rfl h0
      | cons => simp
    have hl2 : min 1 l.length = 1 := by omega
    refine aCalls_go Tryz.func89 rfl (by decide) Tryz.ntmps89 (by simp) false ?_
    have hres : Tryz.f89.results = #[.tmp 4, .tmp 5] := rfl
    repeat' (first | with_reducible refine br_t ?_ | with_reducible refine br_f ?_ | with_reducible refine br_dec (fun _ => ?_) (fun _ => ?_) | with_reducible refine g_dec (fun _ => ?_) (fun _ => ?_) | with_reducible refine g_ndec (fun _ => ?_) (fun _ => ?_) | with_reducible refine br_not (fun _ => ?_) (fun _ => ?_) | with_reducible refine br_split (fun _ => ?_) (fun _ => ?_) | with_reducible refine g_not (fun _ => ?_) (fun _ => ?_) | with_reducible refine g_split (fun _ => ?_) (fun _ => ?_) | with_reducible refine px_dec (fun _ => ?_) (fun _ => ?_) | with_reducible refine px_ndec (fun _ => ?_) (fun _ => ?_) | with_reducible refine px_split (fun _ => ?_) (fun _ => ?_) | with_reducible refine callC hc (fun v' hv => ?_) | simp -implicitDefEqProofs (maxSteps := 2000000) (disch := first | assumption | omega) [*, ])
    all_goals first | (exfalso; omega) | exact hv
theorem rRaw_c {s : List AObj} {id : Nat} {b : List UInt8} {r : RS} {v : List Nat} (hs : s[id]? = some (.cells (rdO b r))) (hr : ROk b r) (hb : b.length ≤ 4611686018427387904) :
    aCalls Tryz.prog 77 [.ptr id 0, .int .i64 1] s v (RPost s id b v (rdByte b r).1 (row (rbL b r))) := by
  have hset := at_set hs
  have hg0 := set_get0 (s := s) (id := id)
  have hg1 := set_get (s := s) (id := id)
  by_cases he : r.e = 0
  · obtain ⟨ra, re⟩ := r
    simp only at he
    subst he
    have hle := hr.1
    simp only at hle
    have hc := raw1_c (s := s ++ [.cells [.int .i64 1], .cells [.nils]]) (idn := s.length) (ido := s.length + 1) (l := b.drop ra) (v := v) (by simp; omega) (by simp) (by simp [get_app])
    by_cases h3 : ra < b.length
    · have hne : b.drop ra ≠ [] := by intro e; have := congrArg List.length e; simp at this; omega
      have ht : (b.drop ra).take 1 = [nth b ra] := by rw [drop_nth h3]; rfl
      have hrb : rbL b ⟨ra, 0⟩ = [nth b ra] := by simp [rbL, h3]
      rw [rdByte_yes h3, hrb]
      simp only [hne, if_false, ht] at hc
      have hcl := take_ok (n := 1) (a := ra) (at_app hs [.cells [.int .i64 1], .cells [.nils]]) (S1 := s ++ [.cells [.int .i64 1], .cells [row [nth b ra]]]) (at_app hs _) (by omega) hb (by simpa [set_app] using hc)
      simp only [if_true] at hcl
      refine RPost.of (by simp) ?_
      clear hc ht hrb
      refine aCalls_go Tryz.func77 rfl (by decide) Tryz.ntmps77 (by simp) false ?_
      have hres : Tryz.f77.results = #[.tmp 4] := rfl
      repeat' (first | with_reducible refine br_t ?_ | with_reducible refine br_f ?_ | with_reducible refine br_dec (fun _ => ?_) (fun _ => ?_) | with_reducible refine g_dec (fun _ => ?_) (fun _ => ?_) | with_reducible refine g_ndec (fun _ => ?_) (fun _ => ?_) | with_reducible refine br_not (fun _ => ?_) (fun _ => ?_) | with_reducible refine br_split (fun _ => ?_) (fun _ => ?_) | with_reducible refine g_not (fun _ => ?_) (fun _ => ?_) | with_reducible refine g_split (fun _ => ?_) (fun _ => ?_) | with_reducible refine px_dec (fun _ => ?_) (fun _ => ?_) | with_reducible refine px_ndec (fun _ => ?_) (fun _ => ?_) | with_reducible refine px_split (fun _ => ?_) (fun _ => ?_) | with_reducible refine callS hcl (fun v' hv => ?_) | simp -implicitDefEqProofs (maxSteps := 2000000) (disch := first | assumption | omega) [*, ])
      exact ⟨_, rfl⟩
    · have hne : b.drop ra = [] := by simp; omega
      have hrb : rbL b ⟨ra, 0⟩ = [] := by simp [rbL, h3]
      rw [rdByte_few h3, hrb]
      simp only [hne, if_true] at hc
      have hcl := take_ok (n := 0) (e1 := 2) (a := ra) (at_app hs [.cells [.int .i64 1], .cells [.nils]]) (S1 := s ++ [.cells [.int .i64 1], .cells [.nils]]) (at_app hs _) (by omega) hb (by simpa [hne] using hc)
      simp only [show ((2 : Int) = 0) = False by simp, if_false] at hcl
      refine RPost.ofW ?_
      clear hc hrb
      refine aCalls_go Tryz.func77 rfl (by decide) Tryz.ntmps77 (by simp) false ?_
      have hres : Tryz.f77.results = #[.tmp 4] := rfl
      repeat' (first | with_reducible refine br_t ?_ | with_reducible refine br_f ?_ | with_reducible refine br_dec (fun _ => ?_) (fun _ => ?_) | with_reducible refine g_dec (fun _ => ?_) (fun _ => ?_) | with_reducible refine g_ndec (fun _ => ?_) (fun _ => ?_) | with_reducible refine br_not (fun _ => ?_) (fun _ => ?_) | with_reducible refine br_split (fun _ => ?_) (fun _ => ?_) | with_reducible refine g_not (fun _ => ?_) (fun _ => ?_) | with_reducible refine g_split (fun _ => ?_) (fun _ => ?_) | with_reducible refine px_dec (fun _ => ?_) (fun _ => ?_) | with_reducible refine px_ndec (fun _ => ?_) (fun _ => ?_) | with_reducible refine px_split (fun _ => ?_) (fun _ => ?_) | with_reducible refine callS hcl (fun v' hv => ?_) | simp -implicitDefEqProofs (maxSteps := 2000000) (disch := first | assumption | omega) [*, ])
      exact ⟨_, rfl⟩
  · have hcl := take_no (g := 89) (ca := [.ptr s.length 0, .ptr (s.length + 1) 0]) (v := v) (at_app hs [.cells [.int .i64 1], .cells [.nils]]) he
    have hsame := set_same hs
    have hrb : rbL b r = [] := by simp [rbL, he]
    rw [rdByte_no he, hrb]
    refine RPost.ofW ?_
    refine aCalls_go Tryz.func77 rfl (by decide) Tryz.ntmps77 (by simp) false ?_
    have hres : Tryz.f77.results = #[.tmp 4] := rfl
    repeat' (first | with_reducible refine br_t ?_ | with_reducible refine br_f ?_ | with_reducible refine br_dec (fun _ => ?_) (fun _ => ?_) | with_reducible refine g_dec (fun _ => ?_) (fun _ => ?_) | with_reducible refine g_ndec (fun _ => ?_) (fun _ => ?_) | with_reducible refine br_not (fun _ => ?_) (fun _ => ?_) | with_reducible refine br_split (fun _ => ?_) (fun _ => ?_) | with_reducible refine g_not (fun _ => ?_) (fun _ => ?_) | with_reducible refine g_split (fun _ => ?_) (fun _ => ?_) | with_reducible refine px_dec (fun _ => ?_) (fun _ => ?_) | with_reducible refine px_ndec (fun _ => ?_) (fun _ => ?_) | with_reducible refine px_split (fun _ => ?_) (fun _ => ?_) | with_reducible refine callT hcl ?_ | simp -implicitDefEqProofs (maxSteps := 2000000) (disch := first | assumption | omega) [*, ])
end Go.Hb
end

section
namespace Go.Hb
open Go Go.Proofs Go.RowKit
set_option maxRecDepth 100000
set_option maxHeartbeats 800000
attribute [-simp] aC aL aOper aThen aInBlock aIf aPlan aAppend aLen aIndexAddr aSlice aCells aBounds lBr aq initT aev aAppendOwn aAppendNil aAppendNew aAppendRef LV.cells LV.cellsOk getElem?_pos getElem?_neg

theorem rbL_byte {b : List UInt8} {r : RS} : (rbL b r = [] ∧ (rdByte b r).2 = 0) ∨ ∃ c, rbL b r = [c] ∧ (rdByte b r).2 = c.toNat := by
  unfold rbL rdByte
  split
  · exact .inl ⟨rfl, rfl⟩
  · split
    · exact .inr ⟨_, rfl, rfl⟩
    · exact .inl ⟨rfl, rfl⟩
theorem rFixed_c {s : List AObj} {id : Nat} {b : List UInt8} {r : RS} {v : List Nat} (hs : s[id]? = some (.cells (rdO b r))) (hr : ROk b r) (hb : b.length ≤ 4611686018427387904) :
    aCalls Tryz.prog 56 [.ptr id 0, .int .i64 1] s v (RPost s id b v (rdByte b r).1 (.int .u64 ((rdByte b r).2 : Int))) := by
  have hc := rRaw_c (v := v) hs hr hb
  refine RPost.of (by simp) ?_
  rcases rbL_byte (b := b) (r := r) with ⟨h1, h2⟩ | ⟨c, h1, h2⟩
  · rw [h1] at hc
    rw [h2]
    refine aCalls_go Tryz.func56 rfl (by decide) Tryz.ntmps56 (by simp) false ?_
    have hres : Tryz.f56.results = #[.tmp 4] := rfl
    repeat' (first | with_reducible refine br_t ?_ | with_reducible refine br_f ?_ | with_reducible refine br_dec (fun _ => ?_) (fun _ => ?_) | with_reducible refine g_dec (fun _ => ?_) (fun _ => ?_) | with_reducible refine g_ndec (fun _ => ?_) (fun _ => ?_) | with_reducible refine br_not (fun _ => ?_) (fun _ => ?_) | with_reducible refine br_split (fun _ => ?_) (fun _ => ?_) | with_reducible refine g_not (fun _ => ?_) (fun _ => ?_) | with_reducible refine g_split (fun _ => ?_) (fun _ => ?_) | with_reducible refine px_dec (fun _ => ?_) (fun _ => ?_) | with_reducible refine px_ndec (fun _ => ?_) (fun _ => ?_) | with_reducible refine px_split (fun _ => ?_) (fun _ => ?_) | with_reducible refine callRd hc (fun v' hv => ?_) | simp -implicitDefEqProofs (maxSteps := 2000000) (disch := first | assumption | omega) [*, ])
    refine aW_for (β := Unit) false 0 (fun _ _ => True) (fun k _ => [(12, .int .i64 k), (5, .int .u64 0), (13, .any), (14, .any), (15, .any), (16, .any), (6, .any), (7, .any), (17, .any), (18, .any), (19, .any), (20, .any), (21, .any), (22, .any), (23, .any), (24, .any)]) (fun _ _ => s.set id (.cells (rdO b (rdByte b r).1))) (fun _ _ => v') ?_ ?_
    · exact ⟨(), trivial, by (refine Fits.of ?_ (Off.refl _ _); simp [upd_apply, upds_cons]), rfl, rfl⟩
    rintro k _ hk _
    repeat' (first | with_reducible refine br_t ?_ | with_reducible refine br_f ?_ | with_reducible refine br_dec (fun _ => ?_) (fun _ => ?_) | with_reducible refine g_dec (fun _ => ?_) (fun _ => ?_) | with_reducible refine g_ndec (fun _ => ?_) (fun _ => ?_) | with_reducible refine br_not (fun _ => ?_) (fun _ => ?_) | with_reducible refine br_split (fun _ => ?_) (fun _ => ?_) | with_reducible refine g_not (fun _ => ?_) (fun _ => ?_) | with_reducible refine g_split (fun _ => ?_) (fun _ => ?_) | with_reducible refine px_dec (fun _ => ?_) (fun _ => ?_) | with_reducible refine px_ndec (fun _ => ?_) (fun _ => ?_) | with_reducible refine px_split (fun _ => ?_) (fun _ => ?_) | simp -implicitDefEqProofs (maxSteps := 2000000) (disch := first | assumption | omega) [*, ])
    all_goals first | (exfalso; omega) | exact ⟨[], by simp⟩
  · rw [h1] at hc
    rw [h2]
    have hc2 := c.toNat_lt
    obtain ⟨z, hz⟩ : ∃ z, c.toNat = z := ⟨_, rfl⟩
    rw [hz] at hc2 ⊢
    clear h2
    have hix : ix [c] 0 = some (.eptr [.int .u8 (z : Int)]) := by rw [← hz]; rfl
    clear hz
    have hw2 : max ((z : Int) % 2 ^ IntKind.u64.bits) 0 = z := by
      have e : (2 : Int) ^ IntKind.u64.bits = 18446744073709551616 := by decide
      rw [e]; omega
    have hw1 : IntKind.u64.wrap (z : Int) = z := by
      simp [IntKind.wrap, IntKind.signed, IntKind.bits]; omega
    have hw3 : IntKind.u64.wrap ((z : Int) % 2 ^ IntKind.u64.bits) = z := by
      have e : (2 : Int) ^ IntKind.u64.bits = 18446744073709551616 := by decide
      rw [e, show (z : Int) % 18446744073709551616 = z by omega, hw1]
    refine aCalls_go Tryz.func56 rfl (by decide) Tryz.ntmps56 (by simp) false ?_
    have hres : Tryz.f56.results = #[.tmp 4] := rfl
    repeat' (first | with_reducible refine br_t ?_ | with_reducible refine br_f ?_ | with_reducible refine br_dec (fun _ => ?_) (fun _ => ?_) | with_reducible refine g_dec (fun _ => ?_) (fun _ => ?_) | with_reducible refine g_ndec (fun _ => ?_) (fun _ => ?_) | with_reducible refine br_not (fun _ => ?_) (fun _ => ?_) | with_reducible refine br_split (fun _ => ?_) (fun _ => ?_) | with_reducible refine g_not (fun _ => ?_) (fun _ => ?_) | with_reducible refine g_split (fun _ => ?_) (fun _ => ?_) | with_reducible refine px_dec (fun _ => ?_) (fun _ => ?_) | with_reducible refine px_ndec (fun _ => ?_) (fun _ => ?_) | with_reducible refine px_split (fun _ => ?_) (fun _ => ?_) | with_reducible refine callRd hc (fun v' hv => ?_) | simp -implicitDefEqProofs (maxSteps := 2000000) (disch := first | assumption | omega) [*, ])
    refine aW_for (β := Unit) false 1 (fun _ _ => True) (fun k _ => [(12, .int .i64 k), (5, .int .u64 (if k = 0 then 0 else z)), (13, .any), (14, .any), (15, .any), (16, .any), (6, .any), (7, .any), (17, .any), (18, .any), (19, .any), (20, .any), (21, .any), (22, .any), (23, .any), (24, .any)]) (fun _ _ => s.set id (.cells (rdO b (rdByte b r).1))) (fun _ _ => v') ?_ ?_
    · exact ⟨(), trivial, by (refine Fits.of ?_ (Off.refl _ _); simp [upd_apply, upds_cons]), rfl, rfl⟩
    rintro k _ hk _
    by_cases h0 : k = 0
    · subst h0
      repeat' (first | with_reducible refine br_t ?_ | with_reducible refine br_f ?_ | with_reducible refine br_dec (fun _ => ?_) (fun _ => ?_) | with_reducible refine g_dec (fun _ => ?_) (fun _ => ?_) | with_reducible refine g_ndec (fun _ => ?_) (fun _ => ?_) | with_reducible refine br_not (fun _ => ?_) (fun _ => ?_) | with_reducible refine br_split (fun _ => ?_) (fun _ => ?_) | with_reducible refine g_not (fun _ => ?_) (fun _ => ?_) | with_reducible refine g_split (fun _ => ?_) (fun _ => ?_) | with_reducible refine px_dec (fun _ => ?_) (fun _ => ?_) | with_reducible refine px_ndec (fun _ => ?_) (fun _ => ?_) | with_reducible refine px_split (fun _ => ?_) (fun _ => ?_) | simp -implicitDefEqProofs (maxSteps := 2000000) (disch := first | assumption | omega) [*, ])
      exact ⟨by omega, (), trivial, by (refine Fits.of ?_ ?_; rotate_left; (repeat (first | with_reducible exact Off.refl _ _ | refine Off.upd rfl ?_ | refine Off.updO rfl ?_ | refine Off.upds rfl ?_)); simp [upd_apply, upds_cons]), rfl, rfl⟩
    · have : k = 1 := by omega
      subst this
      repeat' (first | with_reducible refine br_t ?_ | with_reducible refine br_f ?_ | with_reducible refine br_dec (fun _ => ?_) (fun _ => ?_) | with_reducible refine g_dec (fun _ => ?_) (fun _ => ?_) | with_reducible refine g_ndec (fun _ => ?_) (fun _ => ?_) | with_reducible refine br_not (fun _ => ?_) (fun _ => ?_) | with_reducible refine br_split (fun _ => ?_) (fun _ => ?_) | with_reducible refine g_not (fun _ => ?_) (fun _ => ?_) | with_reducible refine g_split (fun _ => ?_) (fun _ => ?_) | with_reducible refine px_dec (fun _ => ?_) (fun _ => ?_) | with_reducible refine px_ndec (fun _ => ?_) (fun _ => ?_) | with_reducible refine px_split (fun _ => ?_) (fun _ => ?_) | simp -implicitDefEqProofs (maxSteps := 2000000) (disch := first | assumption | omega) [*, ])
      all_goals exact ⟨[], by simp⟩
theorem rNums_c {s : List AObj} {id : Nat} {b : List UInt8} {r : RS} {v : List Nat} (hs : s[id]? = some (.cells (rdO b r))) (hr : ROk b r) (hb : b.length ≤ 4611686018427387904) :
    aCalls Tryz.prog 26 [.ptr id 0] s v (RPost s id b v (rdNums b r).1 (row (rdNums b r).2)) := by
  have hc := rList_c (v := v) (most := 8) hs hr hb (by omega)
  have hlo := rdList_ok (most := 8) hr
  refine RPost.ofW ?_
  unfold rdNums
  generalize rdList b 8 r = rl at *
  obtain ⟨r1, n⟩ := rl
  simp only at *
  have hset := at_self hs
  refine aCalls_go Tryz.func26 rfl (by decide) Tryz.ntmps26 (by simp) false ?_
  have hres : Tryz.f26.results = #[.tmp 2] := rfl
  repeat' (first | with_reducible refine br_t ?_ | with_reducible refine br_f ?_ | with_reducible refine br_dec (fun _ => ?_) (fun _ => ?_) | with_reducible refine g_dec (fun _ => ?_) (fun _ => ?_) | with_reducible refine g_ndec (fun _ => ?_) (fun _ => ?_) | with_reducible refine br_not (fun _ => ?_) (fun _ => ?_) | with_reducible refine br_split (fun _ => ?_) (fun _ => ?_) | with_reducible refine g_not (fun _ => ?_) (fun _ => ?_) | with_reducible refine g_split (fun _ => ?_) (fun _ => ?_) | with_reducible refine px_dec (fun _ => ?_) (fun _ => ?_) | with_reducible refine px_ndec (fun _ => ?_) (fun _ => ?_) | with_reducible refine px_split (fun _ => ?_) (fun _ => ?_) | with_reducible refine callRd hc (fun v' hv => ?_) | simp -implicitDefEqProofs (maxSteps := 2000000) (disch := first | assumption | omega) [*, ])
  refine aW_for (β := LV × List Nat) false n (fun k p => Gro v p.2 (rdMany (rdShort b) k r1).2 p.1) (fun k p => [(6, .int .i64 k), (3, p.1), (7, .any), (8, .any), (9, .any), (10, .any), (11, .any), (12, .any), (13, .any)]) (fun k _ => s.set id (.cells (rdO b (rdMany (rdShort b) k r1).1))) (fun _ p => p.2) ?_ ?_
  · exact ⟨(.nils, v'), (Gro.nil v').back hv, by (refine Fits.of ?_ (Off.refl _ _); simp [upd_apply, upds_cons]), rfl, rfl⟩
  rintro k ⟨x, v1⟩ hk hx
  simp only at hx
  have hxc := hx.cells
  by_cases hlt : k < n
  · have hkl := rdMany_len (rdShort b) k r1
    have hok := (rdMany_ok (p := fun _ => True) (fun r hr => ⟨(rdShort_ok hr).1, trivial⟩) k r1 hlo.1).1
    have hc2 := fun v => rShort_c (v := v) (hset (.cells (rdO b (rdMany (rdShort b) k r1).1))) hok hb
    repeat' (first | with_reducible refine br_t ?_ | with_reducible refine br_f ?_ | with_reducible refine br_dec (fun _ => ?_) (fun _ => ?_) | with_reducible refine g_dec (fun _ => ?_) (fun _ => ?_) | with_reducible refine g_ndec (fun _ => ?_) (fun _ => ?_) | with_reducible refine br_not (fun _ => ?_) (fun _ => ?_) | with_reducible refine br_split (fun _ => ?_) (fun _ => ?_) | with_reducible refine g_not (fun _ => ?_) (fun _ => ?_) | with_reducible refine g_split (fun _ => ?_) (fun _ => ?_) | with_reducible refine px_dec (fun _ => ?_) (fun _ => ?_) | with_reducible refine px_ndec (fun _ => ?_) (fun _ => ?_) | with_reducible refine px_split (fun _ => ?_) (fun _ => ?_) | with_reducible refine callRd (hc2 _) (fun v2 hv2 => ?_) | simp -implicitDefEqProofs (maxSteps := 2000000) (disch := first | assumption | omega) [*, ])
    obtain ⟨x', v3, hx', _, ha⟩ := Gro.push (P := Tryz.prog) (t := 24) (t2 := 24) (sz := 1) (by_ := 8) (by kernel_rfl) rfl (by omega) (hx.mono hv2) (rdShort b (rdMany (rdShort b) k r1).1).2 (Weaks.refl _) rfl (by omega)
    simp only [enc_int] at ha
    have hxc' := hx'.cells
    repeat' (first | with_reducible refine br_t ?_ | with_reducible refine br_f ?_ | with_reducible refine br_dec (fun _ => ?_) (fun _ => ?_) | with_reducible refine g_dec (fun _ => ?_) (fun _ => ?_) | with_reducible refine g_ndec (fun _ => ?_) (fun _ => ?_) | with_reducible refine br_not (fun _ => ?_) (fun _ => ?_) | with_reducible refine br_split (fun _ => ?_) (fun _ => ?_) | with_reducible refine g_not (fun _ => ?_) (fun _ => ?_) | with_reducible refine g_split (fun _ => ?_) (fun _ => ?_) | with_reducible refine px_dec (fun _ => ?_) (fun _ => ?_) | with_reducible refine px_ndec (fun _ => ?_) (fun _ => ?_) | with_reducible refine px_split (fun _ => ?_) (fun _ => ?_) | simp -implicitDefEqProofs (maxSteps := 2000000) (disch := first | assumption | omega) [*, ])
    exact ⟨hlt, (x', v3), hx', by (refine Fits.of ?_ ?_; rotate_left; (repeat (first | with_reducible exact Off.refl _ _ | refine Off.upd rfl ?_ | refine Off.updO rfl ?_ | refine Off.upds rfl ?_)); simp [upd_apply, upds_cons]), rfl, rfl⟩
  · have : k = n := by omega
    subst this
    have hu := hx.under s.length
    have hw := hx.weak
    have hp := hx.pre
    repeat' (first | with_reducible refine br_t ?_ | with_reducible refine br_f ?_ | with_reducible refine br_dec (fun _ => ?_) (fun _ => ?_) | with_reducible refine g_dec (fun _ => ?_) (fun _ => ?_) | with_reducible refine g_ndec (fun _ => ?_) (fun _ => ?_) | with_reducible refine br_not (fun _ => ?_) (fun _ => ?_) | with_reducible refine br_split (fun _ => ?_) (fun _ => ?_) | with_reducible refine g_not (fun _ => ?_) (fun _ => ?_) | with_reducible refine g_split (fun _ => ?_) (fun _ => ?_) | with_reducible refine px_dec (fun _ => ?_) (fun _ => ?_) | with_reducible refine px_ndec (fun _ => ?_) (fun _ => ?_) | with_reducible refine px_split (fun _ => ?_) (fun _ => ?_) | simp -implicitDefEqProofs (maxSteps := 2000000) (disch := first | assumption | omega) [*, ])
end Go.Hb
end

section
namespace Go.Hb
open Go Go.Proofs Go.RowKit
set_option maxRecDepth 100000
set_option maxHeartbeats 800000
attribute [-simp] aC aL aOper aThen aInBlock aIf aPlan aAppend aLen aIndexAddr aSlice aCells aBounds lBr aq initT aev aAppendOwn aAppendNil aAppendNew aAppendRef LV.cells LV.cellsOk getElem?_pos getElem?_neg

theorem rFn_c {s : List AObj} {id : Nat} {b : List UInt8} {r : RS} {v : List Nat} (hs : s[id]? = some (.cells (rdO b r))) (hr : ROk b r) (hb : b.length ≤ 4611686018427387904) :
    aCalls Tryz.prog 24 [.ptr id 0] s v (RPost s id b v (rdFn b r).1 (.agg [.int .i64 (rdFn b r).2.locals, row (rdFn b r).2.code])) := by
  have hset := at_set hs
  have hself := at_self hs
  have hg0 := set_get0 (s := s) (id := id)
  have hg1 := set_get (s := s) (id := id)
  have hg2 : ∀ o o' l, (s.set id o ++ l).set id o' = s.set id o' ++ l := fun o o' l => by rw [at_set (at_self hs o)]; simp
  have hg3 : ∀ o l, (s.set id o ++ l)[id]? = some o := fun o l => at_app (at_self hs o) l
  have hk1 : ∀ o l k o', (s.set id o ++ l).set (s.length + k) o' = s.set id o ++ l.set k o' := fun o l k o' => by simp
  have hk0 : ∀ o l o', (s.set id o ++ l).set s.length o' = s.set id o ++ l.set 0 o' := fun o l o' => by simp
  have hc := rShort_c (v := v) (at_app hs [.cells [.int .i64 0, .nils]]) hr hb
  have hs1 := rdShort_ok hr
  refine RPost.ofW ?_
  unfold rdFn
  simp only
  generalize rdShort b r = rs at *
  obtain ⟨r1, lo⟩ := rs
  simp only at *
  have hc2 := fun v => rList_c (v := v) (most := 64) (hg3 (.cells (rdO b r1)) [.cells [.int .i64 0, .nils], .cells [.int .i64 lo, .nils]]) hs1.1 hb (by omega)
  have hlo := rdList_ok (most := 64) hs1.1
  generalize rdList b 64 r1 = rl at *
  obtain ⟨r2, n⟩ := rl
  simp only at *
  refine aCalls_go Tryz.func24 rfl (by decide) Tryz.ntmps24 (by simp) false ?_
  have hres : Tryz.f24.results = #[.cell 2 46] := rfl
  repeat' (first | with_reducible refine br_t ?_ | with_reducible refine br_f ?_ | with_reducible refine br_dec (fun _ => ?_) (fun _ => ?_) | with_reducible refine g_dec (fun _ => ?_) (fun _ => ?_) | with_reducible refine g_ndec (fun _ => ?_) (fun _ => ?_) | with_reducible refine br_not (fun _ => ?_) (fun _ => ?_) | with_reducible refine br_split (fun _ => ?_) (fun _ => ?_) | with_reducible refine g_not (fun _ => ?_) (fun _ => ?_) | with_reducible refine g_split (fun _ => ?_) (fun _ => ?_) | with_reducible refine px_dec (fun _ => ?_) (fun _ => ?_) | with_reducible refine px_ndec (fun _ => ?_) (fun _ => ?_) | with_reducible refine px_split (fun _ => ?_) (fun _ => ?_) | (with_reducible refine aWh_draw (own := false) (id := 4) (.qs [0, 1, 2, 5] (.w 3 [1] (.qs [4] (.w 6 [1] (.qs [7, 8] (.w 9 [] (.qs [10] (.w 11 [] .nil)))))))) mixed ?_ ?_ ?_; kernel_rfl; kernel_rfl) | with_reducible refine callRd hc (fun v1 hv1 => ?_) | with_reducible refine callRd (hc2 _) (fun v2 hv2 => ?_) | simp -implicitDefEqProofs (maxSteps := 2000000) (disch := first | assumption | omega) [*, ])
  refine aW_for (β := LV × List Nat) false n (fun k p => Gro v p.2 (rdMany (rdIns b) k r2).2 p.1) (fun k p => [(9, .int .i64 k), (10, .any), (11, .any), (12, .any), (13, .any), (14, .any), (15, .any), (16, .any), (17, .any), (18, .any), (19, .any), (20, .any), (21, .any), (22, .any)]) (fun k p => s.set id (.cells (rdO b (rdMany (rdIns b) k r2).1)) ++ [.cells [.int .i64 0, .nils], .cells [.int .i64 lo, p.1]]) (fun _ p => p.2) ?_ ?_
  · exact ⟨(.nils, v2), (Gro.nil v2).back (hv1.trans hv2), by (refine Fits.of ?_ (Off.refl _ _); simp [upd_apply, upds_cons]), by simp [rdMany, *], rfl⟩
  rintro k ⟨x, v3⟩ hk hx
  simp only at hx
  have hxc := hx.cells
  by_cases hlt : k < n
  · have hkl := rdMany_len (rdIns b) k r2
    have hok := (rdMany_ok (p := fun _ => True) (fun r hr => ⟨(rdIns_ok hr).1, trivial⟩) k r2 hlo.1).1
    have hby := rdByte_ok hok
    have hc3 := fun v => rFixed_c (v := v) (hg3 (.cells (rdO b (rdMany (rdIns b) k r2).1)) [.cells [.int .i64 0, .nils], .cells [.int .i64 lo, x]]) hok hb
    have hc4 := fun v => rSigned_c (v := v) (hg3 (.cells (rdO b (rdByte b (rdMany (rdIns b) k r2).1).1)) [.cells [.int .i64 0, .nils], .cells [.int .i64 lo, x]]) hby.1 hb
    repeat' (first | with_reducible refine br_t ?_ | with_reducible refine br_f ?_ | with_reducible refine br_dec (fun _ => ?_) (fun _ => ?_) | with_reducible refine g_dec (fun _ => ?_) (fun _ => ?_) | with_reducible refine g_ndec (fun _ => ?_) (fun _ => ?_) | with_reducible refine br_not (fun _ => ?_) (fun _ => ?_) | with_reducible refine br_split (fun _ => ?_) (fun _ => ?_) | with_reducible refine g_not (fun _ => ?_) (fun _ => ?_) | with_reducible refine g_split (fun _ => ?_) (fun _ => ?_) | with_reducible refine px_dec (fun _ => ?_) (fun _ => ?_) | with_reducible refine px_ndec (fun _ => ?_) (fun _ => ?_) | with_reducible refine px_split (fun _ => ?_) (fun _ => ?_) | (with_reducible refine aWh_draw (own := false) (id := 4) (.qs [0, 1, 2, 5] (.w 3 [1] (.qs [4] (.w 6 [1] (.qs [7, 8] (.w 9 [] (.qs [10] (.w 11 [] .nil)))))))) mixed ?_ ?_ ?_; kernel_rfl; kernel_rfl) | with_reducible refine callRd (hc3 _) (fun v4 hv4 => ?_) | with_reducible refine callRd (hc4 _) (fun v5 hv5 => ?_) | simp -implicitDefEqProofs (maxSteps := 2000000) (disch := first | assumption | omega) [*, ])
    obtain ⟨x', v6, hx', _, ha⟩ := Gro.push (P := Tryz.prog) (t := 44) (t2 := 44) (sz := 2) (by_ := 16) (by kernel_rfl) rfl (by omega) (hx.mono (hv4.trans hv5)) (rdIns b (rdMany (rdIns b) k r2).1).2 (Weaks.refl _) rfl (by omega)
    simp only [enc_ins, rdIns] at ha
    have hxc' := hx'.cells
    repeat' (first | with_reducible refine br_t ?_ | with_reducible refine br_f ?_ | with_reducible refine br_dec (fun _ => ?_) (fun _ => ?_) | with_reducible refine g_dec (fun _ => ?_) (fun _ => ?_) | with_reducible refine g_ndec (fun _ => ?_) (fun _ => ?_) | with_reducible refine br_not (fun _ => ?_) (fun _ => ?_) | with_reducible refine br_split (fun _ => ?_) (fun _ => ?_) | with_reducible refine g_not (fun _ => ?_) (fun _ => ?_) | with_reducible refine g_split (fun _ => ?_) (fun _ => ?_) | with_reducible refine px_dec (fun _ => ?_) (fun _ => ?_) | with_reducible refine px_ndec (fun _ => ?_) (fun _ => ?_) | with_reducible refine px_split (fun _ => ?_) (fun _ => ?_) | (with_reducible refine aWh_draw (own := false) (id := 4) (.qs [0, 1, 2, 5] (.w 3 [1] (.qs [4] (.w 6 [1] (.qs [7, 8] (.w 9 [] (.qs [10] (.w 11 [] .nil)))))))) mixed ?_ ?_ ?_; kernel_rfl; kernel_rfl) | simp -implicitDefEqProofs (maxSteps := 2000000) (disch := first | assumption | omega) [*, ])
    exact ⟨hlt, (x', v6), hx', by (refine Fits.of ?_ ?_; rotate_left; (repeat (first | with_reducible exact Off.refl _ _ | refine Off.upd rfl ?_ | refine Off.updO rfl ?_ | refine Off.upds rfl ?_)); simp [upd_apply, upds_cons]), by simp [rdMany, rdIns], rfl⟩
  · have : k = n := by omega
    subst this
    have hu := hx.under s.length
    have hw := hx.weak
    have hp := hx.pre
    repeat' (first | with_reducible refine br_t ?_ | with_reducible refine br_f ?_ | with_reducible refine br_dec (fun _ => ?_) (fun _ => ?_) | with_reducible refine g_dec (fun _ => ?_) (fun _ => ?_) | with_reducible refine g_ndec (fun _ => ?_) (fun _ => ?_) | with_reducible refine br_not (fun _ => ?_) (fun _ => ?_) | with_reducible refine br_split (fun _ => ?_) (fun _ => ?_) | with_reducible refine g_not (fun _ => ?_) (fun _ => ?_) | with_reducible refine g_split (fun _ => ?_) (fun _ => ?_) | with_reducible refine px_dec (fun _ => ?_) (fun _ => ?_) | with_reducible refine px_ndec (fun _ => ?_) (fun _ => ?_) | with_reducible refine px_split (fun _ => ?_) (fun _ => ?_) | (with_reducible refine aWh_draw (own := false) (id := 4) (.qs [0, 1, 2, 5] (.w 3 [1] (.qs [4] (.w 6 [1] (.qs [7, 8] (.w 9 [] (.qs [10] (.w 11 [] .nil)))))))) mixed ?_ ?_ ?_; kernel_rfl; kernel_rfl) | simp -implicitDefEqProofs (maxSteps := 2000000) (disch := first | assumption | omega) [*, ])
    exact Weak.agg ⟨Weak.refl _, hw, trivial⟩
end Go.Hb
end

section
namespace Go.Hb
open Go Go.Proofs Go.RowKit
set_option maxRecDepth 100000
set_option maxHeartbeats 800000
attribute [-simp] aC aL aOper aThen aInBlock aIf aPlan aAppend aLen aIndexAddr aSlice aCells aBounds lBr aq initT aev aAppendOwn aAppendNil aAppendNew aAppendRef LV.cells LV.cellsOk getElem?_pos getElem?_neg

def rdEnd (b : List UInt8) (r : RS) : RS := if r.e ≠ 0 then r else if r.at_ < b.length then ⟨r.at_, 3⟩ else r
theorem rLeft_c {s : List AObj} {id : Nat} {b : List UInt8} {r : RS} {v : List Nat} (hs : s[id]? = some (.cells (rdO b r))) (hr : ROk b r) (hb : b.length ≤ 4611686018427387904) :
    aCalls Tryz.prog 59 [.ptr id 0] s v fun y s' v' => .int .i64 ((b.length : Int) - r.at_) = y ∧ s = s' ∧ v = v' := by
  have hle := hr.1
  unfold rdO at hs
  refine aCalls_go Tryz.func59 rfl (by decide) Tryz.ntmps59 (by simp) false ?_
  have hres : Tryz.f59.results = #[.tmp 2] := rfl
  repeat' (first | with_reducible refine br_t ?_ | with_reducible refine br_f ?_ | with_reducible refine br_dec (fun _ => ?_) (fun _ => ?_) | with_reducible refine g_dec (fun _ => ?_) (fun _ => ?_) | with_reducible refine g_ndec (fun _ => ?_) (fun _ => ?_) | with_reducible refine br_not (fun _ => ?_) (fun _ => ?_) | with_reducible refine br_split (fun _ => ?_) (fun _ => ?_) | with_reducible refine g_not (fun _ => ?_) (fun _ => ?_) | with_reducible refine g_split (fun _ => ?_) (fun _ => ?_) | with_reducible refine px_dec (fun _ => ?_) (fun _ => ?_) | with_reducible refine px_ndec (fun _ => ?_) (fun _ => ?_) | with_reducible refine px_split (fun _ => ?_) (fun _ => ?_) | (with_reducible refine aWh_draw (own := false) (id := 1) (.qs [0, 1, 2, 3, 4, 5, 6, 7, 8, 9, 10] .nil) mixed ?_ ?_ ?_; kernel_rfl; kernel_rfl) | simp -implicitDefEqProofs (maxSteps := 2000000) (disch := first | assumption | omega) [*, ])
theorem rEnd_c {s : List AObj} {id : Nat} {b : List UInt8} {r : RS} {v : List Nat} (hs : s[id]? = some (.cells (rdO b r))) (hr : ROk b r) (hb : b.length ≤ 4611686018427387904) :
    aCalls Tryz.prog 27 [.ptr id 0] s v (RPost s id b v (rdEnd b r) (.int .i64 (rdEnd b r).e)) := by
  have hl := rLeft_c (v := v) hs hr hb
  have hle := hr.1
  have hid := (List.getElem?_eq_some_iff.1 hs).1
  have hf : ∀ v, aCalls Tryz.prog 60 [.ptr id 0, .int .i64 3] s v fun y s' v' => .tup [] = y ∧ (if r.e = 0 then s.set id (.cells (rdO b ⟨r.at_, 3⟩)) else s) = s' ∧ v = v' := fun v => by
    have hs' : s[id]? = some (.cells [row b, .int .i64 r.at_, .int .i64 r.e]) := hs
    clear hl hs
    by_cases h0 : r.e = 0
    · refine aCalls_go Tryz.func60 rfl (by decide) Tryz.ntmps60 (by simp) false ?_
      have hres : Tryz.f60.results = #[] := rfl
      repeat' (first | with_reducible refine br_t ?_ | with_reducible refine br_f ?_ | with_reducible refine br_dec (fun _ => ?_) (fun _ => ?_) | with_reducible refine g_dec (fun _ => ?_) (fun _ => ?_) | with_reducible refine g_ndec (fun _ => ?_) (fun _ => ?_) | with_reducible refine br_not (fun _ => ?_) (fun _ => ?_) | with_reducible refine br_split (fun _ => ?_) (fun _ => ?_) | with_reducible refine g_not (fun _ => ?_) (fun _ => ?_) | with_reducible refine g_split (fun _ => ?_) (fun _ => ?_) | with_reducible refine px_dec (fun _ => ?_) (fun _ => ?_) | with_reducible refine px_ndec (fun _ => ?_) (fun _ => ?_) | with_reducible refine px_split (fun _ => ?_) (fun _ => ?_) | simp -implicitDefEqProofs (maxSteps := 2000000) (disch := first | assumption | omega) [*, ])
      rfl
    · refine aCalls_go Tryz.func60 rfl (by decide) Tryz.ntmps60 (by simp) false ?_
      have hres : Tryz.f60.results = #[] := rfl
      repeat' (first | with_reducible refine br_t ?_ | with_reducible refine br_f ?_ | with_reducible refine br_dec (fun _ => ?_) (fun _ => ?_) | with_reducible refine g_dec (fun _ => ?_) (fun _ => ?_) | with_reducible refine g_ndec (fun _ => ?_) (fun _ => ?_) | with_reducible refine br_not (fun _ => ?_) (fun _ => ?_) | with_reducible refine br_split (fun _ => ?_) (fun _ => ?_) | with_reducible refine g_not (fun _ => ?_) (fun _ => ?_) | with_reducible refine g_split (fun _ => ?_) (fun _ => ?_) | with_reducible refine px_dec (fun _ => ?_) (fun _ => ?_) | with_reducible refine px_ndec (fun _ => ?_) (fun _ => ?_) | with_reducible refine px_split (fun _ => ?_) (fun _ => ?_) | simp -implicitDefEqProofs (maxSteps := 2000000) (disch := first | assumption | omega) [*, ])
  refine RPost.of (by simp) ?_
  have hsame := set_same hs
  by_cases h1 : r.at_ < b.length
  · have h1' : (0 : Int) < (b.length : Int) - r.at_ := by omega
    by_cases h0 : r.e = 0
    · have he : rdEnd b r = ⟨r.at_, 3⟩ := by simp [rdEnd, h0, h1]
      rw [he]
      simp only [h0, if_true] at hf
      have hg := at_self hs (.cells (rdO b ⟨r.at_, 3⟩))
      have hg2 : rdO b ⟨r.at_, 3⟩ = [row b, .int .i64 r.at_, .int .i64 3] := rfl
      rw [hg2] at hg hf ⊢
      clear hg2
      refine aCalls_go Tryz.func27 rfl (by decide) Tryz.ntmps27 (by simp) false ?_
      have hres : Tryz.f27.results = #[.tmp 2] := rfl
      repeat' (first | with_reducible refine br_t ?_ | with_reducible refine br_f ?_ | with_reducible refine br_dec (fun _ => ?_) (fun _ => ?_) | with_reducible refine g_dec (fun _ => ?_) (fun _ => ?_) | with_reducible refine g_ndec (fun _ => ?_) (fun _ => ?_) | with_reducible refine br_not (fun _ => ?_) (fun _ => ?_) | with_reducible refine br_split (fun _ => ?_) (fun _ => ?_) | with_reducible refine g_not (fun _ => ?_) (fun _ => ?_) | with_reducible refine g_split (fun _ => ?_) (fun _ => ?_) | with_reducible refine px_dec (fun _ => ?_) (fun _ => ?_) | with_reducible refine px_ndec (fun _ => ?_) (fun _ => ?_) | with_reducible refine px_split (fun _ => ?_) (fun _ => ?_) | with_reducible refine callT hl ?_ | with_reducible refine callT (hf _) ?_ | simp -implicitDefEqProofs (maxSteps := 2000000) (disch := first | assumption | omega) [*, ])
      all_goals first | exact ⟨[], by simp⟩ | exact ⟨⟨[], by simp⟩, rfl, List.prefix_refl _⟩
    · have he : rdEnd b r = r := by simp [rdEnd, h0]
      rw [he, hsame]
      simp only [h0, if_false] at hf
      unfold rdO at hs
      refine aCalls_go Tryz.func27 rfl (by decide) Tryz.ntmps27 (by simp) false ?_
      have hres : Tryz.f27.results = #[.tmp 2] := rfl
      repeat' (first | with_reducible refine br_t ?_ | with_reducible refine br_f ?_ | with_reducible refine br_dec (fun _ => ?_) (fun _ => ?_) | with_reducible refine g_dec (fun _ => ?_) (fun _ => ?_) | with_reducible refine g_ndec (fun _ => ?_) (fun _ => ?_) | with_reducible refine br_not (fun _ => ?_) (fun _ => ?_) | with_reducible refine br_split (fun _ => ?_) (fun _ => ?_) | with_reducible refine g_not (fun _ => ?_) (fun _ => ?_) | with_reducible refine g_split (fun _ => ?_) (fun _ => ?_) | with_reducible refine px_dec (fun _ => ?_) (fun _ => ?_) | with_reducible refine px_ndec (fun _ => ?_) (fun _ => ?_) | with_reducible refine px_split (fun _ => ?_) (fun _ => ?_) | with_reducible refine callT hl ?_ | with_reducible refine callT (hf _) ?_ | simp -implicitDefEqProofs (maxSteps := 2000000) (disch := first | assumption | omega) [*, ])
      all_goals first | exact ⟨[], by simp⟩ | exact ⟨⟨[], by simp⟩, rfl, List.prefix_refl _⟩
  · have h1' : ¬ (0 : Int) < (b.length : Int) - r.at_ := by omega
    have he : rdEnd b r = r := by simp [rdEnd, h1]
    rw [he, hsame]
    unfold rdO at hs
    refine aCalls_go Tryz.func27 rfl (by decide) Tryz.ntmps27 (by simp) false ?_
    have hres : Tryz.f27.results = #[.tmp 2] := rfl
    repeat' (first | with_reducible refine br_t ?_ | with_reducible refine br_f ?_ | with_reducible refine br_dec (fun _ => ?_) (fun _ => ?_) | with_reducible refine g_dec (fun _ => ?_) (fun _ => ?_) | with_reducible refine g_ndec (fun _ => ?_) (fun _ => ?_) | with_reducible refine br_not (fun _ => ?_) (fun _ => ?_) | with_reducible refine br_split (fun _ => ?_) (fun _ => ?_) | with_reducible refine g_not (fun _ => ?_) (fun _ => ?_) | with_reducible refine g_split (fun _ => ?_) (fun _ => ?_) | with_reducible refine px_dec (fun _ => ?_) (fun _ => ?_) | with_reducible refine px_ndec (fun _ => ?_) (fun _ => ?_) | with_reducible refine px_split (fun _ => ?_) (fun _ => ?_) | with_reducible refine callT hl ?_ | with_reducible refine callT (hf _) ?_ | simp -implicitDefEqProofs (maxSteps := 2000000) (disch := first | assumption | omega) [*, ])
    all_goals first | exact ⟨[], by simp⟩ | exact ⟨⟨[], by simp⟩, rfl, List.prefix_refl _⟩
theorem nums_row {l : List Int} (h1 : l.length ≤ 8) (h2 : ∀ x ∈ l, 0 ≤ x ∧ x ≤ 9223372036854775807) : OkRow I64 l := ⟨fun x hx => by have := h2 x hx; constructor <;> omega, by omega⟩
set_option maxHeartbeats 8000000 in
theorem cread_p {b : List UInt8} (hb : b.length ≤ 90000000) : PureC Tryz.prog 9 [row b] (.tup [.agg (readP b).1.lv, .int .i64 (readP b).2]) := by
  have hr0 : ROk b ⟨0, 0⟩ := ⟨Nat.zero_le _, by simp, by simp⟩
  have hb2 : b.length ≤ 4611686018427387904 := by omega
  refine .of fun s v => ?_
  have hn := newReader_c (b := b) (s := s ++ [.cells [.nils, .int .i64 0, .nils, .nils, .nils, .nils, .int .i64 0]]) (v := v) hb
  have hl := fun v => rList_c (v := v) (s := s ++ [.cells [.nils, .int .i64 0, .nils, .nils, .nils, .nils, .int .i64 0], .cells (rdO b ⟨0, 0⟩), .cells [.nils, .int .i64 0, .nils, .nils, .nils, .nils, .int .i64 0]]) (id := s.length + 1) (most := 16) (by simp [get_app]) hr0 hb2 (by omega)
  have ol := rdList_ok (most := 16) hr0
  unfold readP rdProg rdFuncs rdChoices
  simp only
  generalize rdList b 16 ⟨0, 0⟩ = rl at *
  obtain ⟨r1, n⟩ := rl
  simp only at *
  refine aCalls_go Tryz.func9 rfl (by decide) Tryz.ntmps9 (by simp) false ?_
  have hres : Tryz.f9.results = #[.cell 2 27, .tmp 3] := rfl
  repeat' (first | with_reducible refine br_t ?_ | with_reducible refine br_f ?_ | with_reducible refine br_dec (fun _ => ?_) (fun _ => ?_) | with_reducible refine g_dec (fun _ => ?_) (fun _ => ?_) | with_reducible refine g_ndec (fun _ => ?_) (fun _ => ?_) | with_reducible refine br_not (fun _ => ?_) (fun _ => ?_) | with_reducible refine br_split (fun _ => ?_) (fun _ => ?_) | with_reducible refine g_not (fun _ => ?_) (fun _ => ?_) | with_reducible refine g_split (fun _ => ?_) (fun _ => ?_) | with_reducible refine px_dec (fun _ => ?_) (fun _ => ?_) | with_reducible refine px_ndec (fun _ => ?_) (fun _ => ?_) | with_reducible refine px_split (fun _ => ?_) (fun _ => ?_) | (with_reducible refine aWh_draw (own := false) (id := 5) (.qs [0, 1, 2] (.w 3 [1] (.qs [4] (.w 5 [] (.qs [6] (.w 7 [] .nil)))))) mixed ?_ ?_ ?_; kernel_rfl; kernel_rfl) | (with_reducible refine aWh_draw (own := false) (id := 11) (.qs [0, 1, 2] (.w 3 [1] (.qs [4] (.w 5 [] (.qs [6] (.w 7 [] .nil)))))) mixed ?_ ?_ ?_; kernel_rfl; kernel_rfl) | with_reducible refine callS hn (fun v1 hv1 => ?_) | with_reducible refine callRd (hl _) (fun v2 hv2 => ?_) | simp -implicitDefEqProofs (maxSteps := 2000000) (disch := first | assumption | omega) [*, ])
  have hv02 := hv1.trans hv2
  clear hn hl hv1 hv2 hr0
  refine aW_for (β := LV × List Nat) false n (fun k p => Gro v p.2 (rdMany (rdFn b) k r1).2 p.1) (fun k p => [(11, .int .i64 k), (12, .any), (13, .any), (14, .any), (15, .any), (16, .any), (17, .any), (18, .any), (19, .any), (20, .any)]) (fun k p => s ++ [.cells [.nils, .int .i64 0, .nils, .nils, .nils, .nils, .int .i64 0], .cells (rdO b (rdMany (rdFn b) k r1).1), .cells [p.1, .int .i64 0, .nils, .nils, .nils, .nils, .int .i64 0]]) (fun _ p => p.2) ?_ ?_
  · exact ⟨(.nils, v2), (Gro.nil v2).back hv02, by (refine Fits.of ?_ (Off.refl _ _); simp [upd_apply, upds_cons]), rfl, rfl⟩
  rintro k ⟨x, v3⟩ hk hx
  simp only at hx
  have hxc := hx.cells
  by_cases hlt : k < n
  · have hkl := rdMany_len (rdFn b) k r1
    have hok := (rdMany_ok (p := fun _ => True) (fun r hr => ⟨(rdFn_ok hr).1, trivial⟩) k r1 ol.1).1
    have hc3 := fun v => rFn_c (v := v) (s := s ++ [.cells [.nils, .int .i64 0, .nils, .nils, .nils, .nils, .int .i64 0], .cells (rdO b (rdMany (rdFn b) k r1).1), .cells [x, .int .i64 0, .nils, .nils, .nils, .nils, .int .i64 0]]) (id := s.length + 1) (by simp [get_app]) hok hb2
    repeat' (first | with_reducible refine br_t ?_ | with_reducible refine br_f ?_ | with_reducible refine br_dec (fun _ => ?_) (fun _ => ?_) | with_reducible refine g_dec (fun _ => ?_) (fun _ => ?_) | with_reducible refine g_ndec (fun _ => ?_) (fun _ => ?_) | with_reducible refine br_not (fun _ => ?_) (fun _ => ?_) | with_reducible refine br_split (fun _ => ?_) (fun _ => ?_) | with_reducible refine g_not (fun _ => ?_) (fun _ => ?_) | with_reducible refine g_split (fun _ => ?_) (fun _ => ?_) | with_reducible refine px_dec (fun _ => ?_) (fun _ => ?_) | with_reducible refine px_ndec (fun _ => ?_) (fun _ => ?_) | with_reducible refine px_split (fun _ => ?_) (fun _ => ?_) | (with_reducible refine aWh_draw (own := false) (id := 5) (.qs [0, 1, 2] (.w 3 [1] (.qs [4] (.w 5 [] (.qs [6] (.w 7 [] .nil)))))) mixed ?_ ?_ ?_; kernel_rfl; kernel_rfl) | (with_reducible refine aWh_draw (own := false) (id := 11) (.qs [0, 1, 2] (.w 3 [1] (.qs [4] (.w 5 [] (.qs [6] (.w 7 [] .nil)))))) mixed ?_ ?_ ?_; kernel_rfl; kernel_rfl) | with_reducible refine callRd (hc3 _) (fun v4 hv4 => ?_) | simp -implicitDefEqProofs (maxSteps := 2000000) (disch := first | assumption | omega) [*, ])
    obtain ⟨x', v6, hx', _, ha⟩ := Gro.push (P := Tryz.prog) (t := 23) (t2 := 23) (sz := 2) (by_ := 32) (by kernel_rfl) rfl (by omega) (hx.mono hv4) (rdFn b (rdMany (rdFn b) k r1).1).2 (Weaks.refl _) (by simp) (by omega)
    simp only [enc_fn] at ha
    have hxc' := hx'.cells
    repeat' (first | with_reducible refine br_t ?_ | with_reducible refine br_f ?_ | with_reducible refine br_dec (fun _ => ?_) (fun _ => ?_) | with_reducible refine g_dec (fun _ => ?_) (fun _ => ?_) | with_reducible refine g_ndec (fun _ => ?_) (fun _ => ?_) | with_reducible refine br_not (fun _ => ?_) (fun _ => ?_) | with_reducible refine br_split (fun _ => ?_) (fun _ => ?_) | with_reducible refine g_not (fun _ => ?_) (fun _ => ?_) | with_reducible refine g_split (fun _ => ?_) (fun _ => ?_) | with_reducible refine px_dec (fun _ => ?_) (fun _ => ?_) | with_reducible refine px_ndec (fun _ => ?_) (fun _ => ?_) | with_reducible refine px_split (fun _ => ?_) (fun _ => ?_) | (with_reducible refine aWh_draw (own := false) (id := 5) (.qs [0, 1, 2] (.w 3 [1] (.qs [4] (.w 5 [] (.qs [6] (.w 7 [] .nil)))))) mixed ?_ ?_ ?_; kernel_rfl; kernel_rfl) | (with_reducible refine aWh_draw (own := false) (id := 11) (.qs [0, 1, 2] (.w 3 [1] (.qs [4] (.w 5 [] (.qs [6] (.w 7 [] .nil)))))) mixed ?_ ?_ ?_; kernel_rfl; kernel_rfl) | simp -implicitDefEqProofs (maxSteps := 2000000) (disch := first | assumption | omega) [*, ])
    exact ⟨hlt, (x', v6), hx', by (refine Fits.of ?_ ?_; rotate_left; (repeat (first | with_reducible exact Off.refl _ _ | refine Off.upd rfl ?_ | refine Off.updO rfl ?_ | refine Off.upds rfl ?_)); simp [upd_apply, upds_cons]), by simp [rdMany], rfl⟩
  · have : k = n := by omega
    subst this
    have of := rdMany_ok (p := fun f : Fn_ => I64 f.locals ∧ (∀ i ∈ f.code, I64 i.op ∧ I64 i.a) ∧ f.code.length ≤ 64) (fun r hr => rdFn_ok hr) k r1 ol.1
    have olen := rdMany_len (rdFn b) k r1
    rw [← olen] at ol
    clear hlt hk
    generalize rdMany (rdFn b) k r1 = rf at *
    obtain ⟨r2, fs⟩ := rf
    simp only at of hx ol olen ⊢
    obtain ⟨of1, of2⟩ := of
    replace ol := ol.2
    have o2 := rdShort_ok of1
    have h2 := fun v => rShort_c (v := v) (s := s ++ [.cells [.nils, .int .i64 0, .nils, .nils, .nils, .nils, .int .i64 0], .cells (rdO b r2), .cells [x, .int .i64 0, .nils, .nils, .nils, .nils, .int .i64 0]]) (id := s.length + 1) (by simp [get_app]) of1 hb2
    generalize rdShort b r2 = y at *
    obtain ⟨r3, mu⟩ := y
    simp only at o2 h2 ⊢
    have o3 := rdNums_ok o2.1
    have h3 := fun v => rNums_c (v := v) (s := s ++ [.cells [.nils, .int .i64 0, .nils, .nils, .nils, .nils, .int .i64 0], .cells (rdO b r3), .cells [x, .int .i64 mu, .nils, .nils, .nils, .nils, .int .i64 0]]) (id := s.length + 1) (by simp [get_app]) o2.1 hb2
    generalize rdNums b r3 = y at *
    obtain ⟨r4, co⟩ := y
    simp only at o3 h3 ⊢
    have o4 := rdNums_ok o3.1
    have h4 := fun v => rNums_c (v := v) (s := s ++ [.cells [.nils, .int .i64 0, .nils, .nils, .nils, .nils, .int .i64 0], .cells (rdO b r4), .cells [x, .int .i64 mu, .nils, .nils, .nils, .nils, .int .i64 0]]) (id := s.length + 1) (by simp [get_app]) o3.1 hb2
    generalize rdNums b r4 = y at *
    obtain ⟨r5, se⟩ := y
    simp only at o4 h4 ⊢
    have o5 := rdNums_ok o4.1
    have h5 := fun v => rNums_c (v := v) (s := s ++ [.cells [.nils, .int .i64 0, .nils, .nils, .nils, .nils, .int .i64 0], .cells (rdO b r5), .cells [x, .int .i64 mu, .nils, .nils, .nils, .nils, .int .i64 0]]) (id := s.length + 1) (by simp [get_app]) o4.1 hb2
    generalize rdNums b r5 = y at *
    obtain ⟨r6, ch⟩ := y
    simp only at o5 h5 ⊢
    have o6 := rdList_ok (most := 8) o5.1
    have h6 := fun v => rList_c (v := v) (most := 8) (s := s ++ [.cells [.nils, .int .i64 0, .nils, .nils, .nils, .nils, .int .i64 0], .cells (rdO b r6), .cells [x, .int .i64 mu, row co, row se, row ch, .nils, .int .i64 0]]) (id := s.length + 1) (by simp [get_app]) o5.1 hb2 (by omega)
    generalize rdList b 8 r6 = y at *
    obtain ⟨r7, m⟩ := y
    simp only at o6 h6 ⊢
    repeat' (first | with_reducible refine br_t ?_ | with_reducible refine br_f ?_ | with_reducible refine br_dec (fun _ => ?_) (fun _ => ?_) | with_reducible refine g_dec (fun _ => ?_) (fun _ => ?_) | with_reducible refine g_ndec (fun _ => ?_) (fun _ => ?_) | with_reducible refine br_not (fun _ => ?_) (fun _ => ?_) | with_reducible refine br_split (fun _ => ?_) (fun _ => ?_) | with_reducible refine g_not (fun _ => ?_) (fun _ => ?_) | with_reducible refine g_split (fun _ => ?_) (fun _ => ?_) | with_reducible refine px_dec (fun _ => ?_) (fun _ => ?_) | with_reducible refine px_ndec (fun _ => ?_) (fun _ => ?_) | with_reducible refine px_split (fun _ => ?_) (fun _ => ?_) | (with_reducible refine aWh_draw (own := false) (id := 5) (.qs [0, 1, 2] (.w 3 [1] (.qs [4] (.w 5 [] (.qs [6] (.w 7 [] .nil)))))) mixed ?_ ?_ ?_; kernel_rfl; kernel_rfl) | (with_reducible refine aWh_draw (own := false) (id := 11) (.qs [0, 1, 2] (.w 3 [1] (.qs [4] (.w 5 [] (.qs [6] (.w 7 [] .nil)))))) mixed ?_ ?_ ?_; kernel_rfl; kernel_rfl) | with_reducible refine callRd (h2 _) (fun v4 hv4 => ?_) | with_reducible refine callRd (h3 _) (fun v5 hv5 => ?_) | with_reducible refine callRd (h4 _) (fun v6 hv6 => ?_) | with_reducible refine callRd (h5 _) (fun v7 hv7 => ?_) | with_reducible refine callRd (h6 _) (fun v8 hv8 => ?_) | simp -implicitDefEqProofs (maxSteps := 2000000) (disch := first | assumption | omega) [*, ])
    have hv48 := (((hv4.trans hv5).trans hv6).trans hv7).trans hv8
    clear h2 h3 h4 h5 h6
    refine aW_for (β := LV × List Nat) false m (fun j p => Gro v8 p.2 (rdMany (rdNums b) j r7).2 p.1) (fun j p => [(35, .int .i64 j), (36, .any), (37, .any), (38, .any), (39, .any), (40, .any), (41, .any), (42, .any), (43, .any), (44, .any)]) (fun j p => s ++ [.cells [.nils, .int .i64 0, .nils, .nils, .nils, .nils, .int .i64 0], .cells (rdO b (rdMany (rdNums b) j r7).1), .cells [x, .int .i64 mu, row co, row se, row ch, p.1, .int .i64 0]]) (fun _ p => p.2) ?_ ?_
    · exact ⟨(.nils, v8), Gro.nil v8, by (refine Fits.of ?_ (Off.refl _ _); simp [upd_apply, upds_cons]), rfl, rfl⟩
    rintro j ⟨z, v9⟩ hj hz
    simp only at hz
    have hzc := hz.cells
    by_cases hjl : j < m
    · have hkl := rdMany_len (rdNums b) j r7
      have hok := (rdMany_ok (p := fun _ => True) (fun r hr => ⟨(rdNums_ok hr).1, trivial⟩) j r7 o6.1).1
      have hc3 := fun v => rNums_c (v := v) (s := s ++ [.cells [.nils, .int .i64 0, .nils, .nils, .nils, .nils, .int .i64 0], .cells (rdO b (rdMany (rdNums b) j r7).1), .cells [x, .int .i64 mu, row co, row se, row ch, z, .int .i64 0]]) (id := s.length + 1) (by simp [get_app]) hok hb2
      repeat' (first | with_reducible refine br_t ?_ | with_reducible refine br_f ?_ | with_reducible refine br_dec (fun _ => ?_) (fun _ => ?_) | with_reducible refine g_dec (fun _ => ?_) (fun _ => ?_) | with_reducible refine g_ndec (fun _ => ?_) (fun _ => ?_) | with_reducible refine br_not (fun _ => ?_) (fun _ => ?_) | with_reducible refine br_split (fun _ => ?_) (fun _ => ?_) | with_reducible refine g_not (fun _ => ?_) (fun _ => ?_) | with_reducible refine g_split (fun _ => ?_) (fun _ => ?_) | with_reducible refine px_dec (fun _ => ?_) (fun _ => ?_) | with_reducible refine px_ndec (fun _ => ?_) (fun _ => ?_) | with_reducible refine px_split (fun _ => ?_) (fun _ => ?_) | (with_reducible refine aWh_draw (own := false) (id := 5) (.qs [0, 1, 2] (.w 3 [1] (.qs [4] (.w 5 [] (.qs [6] (.w 7 [] .nil)))))) mixed ?_ ?_ ?_; kernel_rfl; kernel_rfl) | (with_reducible refine aWh_draw (own := false) (id := 11) (.qs [0, 1, 2] (.w 3 [1] (.qs [4] (.w 5 [] (.qs [6] (.w 7 [] .nil)))))) mixed ?_ ?_ ?_; kernel_rfl; kernel_rfl) | with_reducible refine callRd (hc3 _) (fun v10 hv10 => ?_) | simp -implicitDefEqProofs (maxSteps := 2000000) (disch := first | assumption | omega) [*, ])
      obtain ⟨z', v11, hz', _, ha⟩ := Gro.push (P := Tryz.prog) (t := 25) (t2 := 25) (sz := 1) (by_ := 24) (by kernel_rfl) rfl (by omega) (hz.mono hv10) (rdNums b (rdMany (rdNums b) j r7).1).2 (Weaks.refl _) (by simp) (by omega)
      simp only [enc_list] at ha
      have hzc' := hz'.cells
      repeat' (first | with_reducible refine br_t ?_ | with_reducible refine br_f ?_ | with_reducible refine br_dec (fun _ => ?_) (fun _ => ?_) | with_reducible refine g_dec (fun _ => ?_) (fun _ => ?_) | with_reducible refine g_ndec (fun _ => ?_) (fun _ => ?_) | with_reducible refine br_not (fun _ => ?_) (fun _ => ?_) | with_reducible refine br_split (fun _ => ?_) (fun _ => ?_) | with_reducible refine g_not (fun _ => ?_) (fun _ => ?_) | with_reducible refine g_split (fun _ => ?_) (fun _ => ?_) | with_reducible refine px_dec (fun _ => ?_) (fun _ => ?_) | with_reducible refine px_ndec (fun _ => ?_) (fun _ => ?_) | with_reducible refine px_split (fun _ => ?_) (fun _ => ?_) | (with_reducible refine aWh_draw (own := false) (id := 5) (.qs [0, 1, 2] (.w 3 [1] (.qs [4] (.w 5 [] (.qs [6] (.w 7 [] .nil)))))) mixed ?_ ?_ ?_; kernel_rfl; kernel_rfl) | (with_reducible refine aWh_draw (own := false) (id := 11) (.qs [0, 1, 2] (.w 3 [1] (.qs [4] (.w 5 [] (.qs [6] (.w 7 [] .nil)))))) mixed ?_ ?_ ?_; kernel_rfl; kernel_rfl) | simp -implicitDefEqProofs (maxSteps := 2000000) (disch := first | assumption | omega) [*, ])
      exact ⟨hjl, (z', v11), hz', by (refine Fits.of ?_ ?_; rotate_left; (repeat (first | with_reducible exact Off.refl _ _ | refine Off.upd rfl ?_ | refine Off.updO rfl ?_ | refine Off.upds rfl ?_)); simp [upd_apply, upds_cons]), by simp [rdMany], rfl⟩
    · have : j = m := by omega
      subst this
      have og := rdMany_ok (p := fun l : List Int => l.length ≤ 8 ∧ ∀ x ∈ l, 0 ≤ x ∧ x ≤ 9223372036854775807) (fun r hr => rdNums_ok hr) j r7 o6.1
      have oglen := rdMany_len (rdNums b) j r7
      rw [← oglen] at o6
      clear hjl hj
      generalize rdMany (rdNums b) j r7 = rg at *
      obtain ⟨r8, cho⟩ := rg
      simp only at og hz o6 ⊢
      obtain ⟨og1, og2⟩ := og
      replace o6 := o6.2
      have o9 := rdShort_ok og1
      have h9 := fun v => rShort_c (v := v) (s := s ++ [.cells [.nils, .int .i64 0, .nils, .nils, .nils, .nils, .int .i64 0], .cells (rdO b r8), .cells [x, .int .i64 mu, row co, row se, row ch, z, .int .i64 0]]) (id := s.length + 1) (by simp [get_app]) og1 hb2
      generalize rdShort b r8 = y at *
      obtain ⟨r9, th⟩ := y
      simp only at o9 h9 ⊢
      have hokp : OkProg ⟨fs, mu, co, se, ch, cho, th⟩ := by
        refine ⟨⟨fun f hf => ?_, ?_⟩, ?_, nums_row o3.2.1 o3.2.2, nums_row o4.2.1 o4.2.2, nums_row o5.2.1 o5.2.2, ⟨fun l hl => ?_, ?_⟩, ?_⟩
        · have := of2 f hf
          exact ⟨this.1, this.2.1, by omega⟩
        · simp only; omega
        · constructor <;> simp only <;> omega
        · exact nums_row (og2 l hl).1 (og2 l hl).2
        · simp only; omega
        · constructor <;> simp only <;> omega
      have hm0 := may_ok hokp
      have hxw := hx.weak
      have hzw := hz.weak
      have hxu := hx.under s.length
      have hzu := hz.under s.length
      have hm : PureC Tryz.prog 28 [.agg [x, .int .i64 mu, row co, row se, row ch, z, .int .i64 th]] (.bool (mayP ⟨fs, mu, co, se, ch, cho, th⟩)) := fun s v => aCalls_argw (args' := [.agg [row fs, .int .i64 mu, row co, row se, row ch, row cho, .int .i64 th]]) ⟨Weak.agg ⟨hxw, Weak.refl _, Weak.refl _, Weak.refl _, Weak.refl _, hzw, Weak.refl _, trivial⟩, trivial⟩ (hm0 s v)
      clear hm0
      have he := fun v => rEnd_c (v := v) (s := s ++ [.cells [.nils, .int .i64 0, .nils, .nils, .nils, .nils, .int .i64 0], .cells (rdO b r9), .cells [x, .int .i64 mu, row co, row se, row ch, z, .int .i64 th]]) (id := s.length + 1) (by simp [get_app]) o9.1 hb2
      have hpx := hx.pre
      have hpz := hz.pre
      have hp0 := hpx.trans (hv48.trans hpz)
      have herr : ∀ e : Int, Weak (.tup [.agg [.nils, .int .i64 0, .nils, .nils, .nils, .nils, .int .i64 0], .int .i64 e]) (.tup [.agg noProg.lv, .int .i64 e]) := fun e => Weak.tup ⟨Weak.agg ⟨Weak.nilrow, Weak.refl _, Weak.nilrow, Weak.nilrow, Weak.nilrow, Weak.nilrow, Weak.refl _, trivial⟩, Weak.refl _, trivial⟩
      have hok : Weak (.tup [.agg [x, .int .i64 mu, row co, row se, row ch, z, .int .i64 th], .int .i64 0]) (.tup [.agg (Prog.lv ⟨fs, mu, co, se, ch, cho, th⟩), .int .i64 0]) := Weak.tup ⟨Weak.agg ⟨hxw, Weak.refl _, Weak.refl _, Weak.refl _, Weak.refl _, hzw, Weak.refl _, trivial⟩, Weak.refl _, trivial⟩
      have hre : (rdEnd b r9).e = if r9.e ≠ 0 then r9.e else if r9.at_ < b.length then 3 else 0 := by
        unfold rdEnd
        split
        · rfl
        · rename_i h
          split
          · rfl
          · simpa using h
      obtain ⟨hfin, hfin2⟩ : (∀ e : Int, (rdEnd b r9).e = e → e ≠ 0 → (if r9.e ≠ 0 then (noProg, r9.e) else if r9.at_ < b.length then (noProg, 3) else if mayP ⟨fs, mu, co, se, ch, cho, th⟩ = true then (⟨fs, mu, co, se, ch, cho, th⟩, 0) else (noProg, 1)) = (noProg, e)) ∧ ((rdEnd b r9).e = 0 → (if r9.e ≠ 0 then (noProg, r9.e) else if r9.at_ < b.length then (noProg, 3) else if mayP ⟨fs, mu, co, se, ch, cho, th⟩ = true then ((⟨fs, mu, co, se, ch, cho, th⟩ : Prog), (0 : Int)) else (noProg, 1)) = if mayP ⟨fs, mu, co, se, ch, cho, th⟩ = true then (⟨fs, mu, co, se, ch, cho, th⟩, 0) else (noProg, 1)) := by
        rw [hre]
        constructor
        · intro e h1 h2
          subst h1
          split
          · rfl
          · rename_i h
            rw [if_neg h] at h2
            split
            · rfl
            · rename_i h3; rw [if_neg h3] at h2; exact absurd rfl h2
        · intro h1
          split
          · rename_i h; rw [if_pos h] at h1; exact absurd h1 h
          · rename_i h
            rw [if_neg h] at h1
            split
            · rename_i h3; rw [if_pos h3] at h1; exact absurd h1 (by simp)
            · rfl
      clear hre
      generalize (if r9.e ≠ 0 then (noProg, r9.e) else if r9.at_ < b.length then (noProg, 3) else if mayP ⟨fs, mu, co, se, ch, cho, th⟩ = true then ((⟨fs, mu, co, se, ch, cho, th⟩ : Prog), (0 : Int)) else (noProg, 1)) = R at *
      generalize rdEnd b r9 = rE at *
      by_cases hE : rE.e = 0
      · have hfin2 := hfin2 hE
        clear hfin
        rw [hE] at he
        by_cases hmay : mayP ⟨fs, mu, co, se, ch, cho, th⟩ = true
        · rw [hmay] at hm
          rw [if_pos hmay] at hfin2
          subst hfin2
          repeat' (first | with_reducible refine br_t ?_ | with_reducible refine br_f ?_ | with_reducible refine br_dec (fun _ => ?_) (fun _ => ?_) | with_reducible refine g_dec (fun _ => ?_) (fun _ => ?_) | with_reducible refine g_ndec (fun _ => ?_) (fun _ => ?_) | with_reducible refine br_not (fun _ => ?_) (fun _ => ?_) | with_reducible refine br_split (fun _ => ?_) (fun _ => ?_) | with_reducible refine g_not (fun _ => ?_) (fun _ => ?_) | with_reducible refine g_split (fun _ => ?_) (fun _ => ?_) | with_reducible refine px_dec (fun _ => ?_) (fun _ => ?_) | with_reducible refine px_ndec (fun _ => ?_) (fun _ => ?_) | with_reducible refine px_split (fun _ => ?_) (fun _ => ?_) | (with_reducible refine aWh_draw (own := false) (id := 5) (.qs [0, 1, 2] (.w 3 [1] (.qs [4] (.w 5 [] (.qs [6] (.w 7 [] .nil)))))) mixed ?_ ?_ ?_; kernel_rfl; kernel_rfl) | (with_reducible refine aWh_draw (own := false) (id := 11) (.qs [0, 1, 2] (.w 3 [1] (.qs [4] (.w 5 [] (.qs [6] (.w 7 [] .nil)))))) mixed ?_ ?_ ?_; kernel_rfl; kernel_rfl) | with_reducible refine callRd (h9 _) (fun v10 hv10 => ?_) | with_reducible refine callRd (he _) (fun v11 hv11 => ?_) | with_reducible refine callC hm (fun v12 hv12 => ?_) | simp -implicitDefEqProofs (maxSteps := 2000000) (disch := first | assumption | omega) [*, ])
          exact Ends.at (by simp [hxu, hzu]) hok (((hp0.trans hv10).trans hv11).trans hv12)
        · rw [if_neg hmay] at hfin2
          simp only [Bool.not_eq_true] at hmay
          rw [hmay] at hm
          subst hfin2
          repeat' (first | with_reducible refine br_t ?_ | with_reducible refine br_f ?_ | with_reducible refine br_dec (fun _ => ?_) (fun _ => ?_) | with_reducible refine g_dec (fun _ => ?_) (fun _ => ?_) | with_reducible refine g_ndec (fun _ => ?_) (fun _ => ?_) | with_reducible refine br_not (fun _ => ?_) (fun _ => ?_) | with_reducible refine br_split (fun _ => ?_) (fun _ => ?_) | with_reducible refine g_not (fun _ => ?_) (fun _ => ?_) | with_reducible refine g_split (fun _ => ?_) (fun _ => ?_) | with_reducible refine px_dec (fun _ => ?_) (fun _ => ?_) | with_reducible refine px_ndec (fun _ => ?_) (fun _ => ?_) | with_reducible refine px_split (fun _ => ?_) (fun _ => ?_) | (with_reducible refine aWh_draw (own := false) (id := 5) (.qs [0, 1, 2] (.w 3 [1] (.qs [4] (.w 5 [] (.qs [6] (.w 7 [] .nil)))))) mixed ?_ ?_ ?_; kernel_rfl; kernel_rfl) | (with_reducible refine aWh_draw (own := false) (id := 11) (.qs [0, 1, 2] (.w 3 [1] (.qs [4] (.w 5 [] (.qs [6] (.w 7 [] .nil)))))) mixed ?_ ?_ ?_; kernel_rfl; kernel_rfl) | with_reducible refine callRd (h9 _) (fun v10 hv10 => ?_) | with_reducible refine callRd (he _) (fun v11 hv11 => ?_) | with_reducible refine callC hm (fun v12 hv12 => ?_) | simp -implicitDefEqProofs (maxSteps := 2000000) (disch := first | assumption | omega) [*, ])
          exact Ends.at (by simp) (herr 1) (((hp0.trans hv10).trans hv11).trans hv12)
      · have hfin := hfin _ rfl hE
        clear hfin2
        subst hfin
        repeat' (first | with_reducible refine br_t ?_ | with_reducible refine br_f ?_ | with_reducible refine br_dec (fun _ => ?_) (fun _ => ?_) | with_reducible refine g_dec (fun _ => ?_) (fun _ => ?_) | with_reducible refine g_ndec (fun _ => ?_) (fun _ => ?_) | with_reducible refine br_not (fun _ => ?_) (fun _ => ?_) | with_reducible refine br_split (fun _ => ?_) (fun _ => ?_) | with_reducible refine g_not (fun _ => ?_) (fun _ => ?_) | with_reducible refine g_split (fun _ => ?_) (fun _ => ?_) | with_reducible refine px_dec (fun _ => ?_) (fun _ => ?_) | with_reducible refine px_ndec (fun _ => ?_) (fun _ => ?_) | with_reducible refine px_split (fun _ => ?_) (fun _ => ?_) | (with_reducible refine aWh_draw (own := false) (id := 5) (.qs [0, 1, 2] (.w 3 [1] (.qs [4] (.w 5 [] (.qs [6] (.w 7 [] .nil)))))) mixed ?_ ?_ ?_; kernel_rfl; kernel_rfl) | (with_reducible refine aWh_draw (own := false) (id := 11) (.qs [0, 1, 2] (.w 3 [1] (.qs [4] (.w 5 [] (.qs [6] (.w 7 [] .nil)))))) mixed ?_ ?_ ?_; kernel_rfl; kernel_rfl) | with_reducible refine callRd (h9 _) (fun v10 hv10 => ?_) | with_reducible refine callRd (he _) (fun v11 hv11 => ?_) | with_reducible refine callC hm (fun v12 hv12 => ?_) | simp -implicitDefEqProofs (maxSteps := 2000000) (disch := first | assumption | omega) [*, ])
        exact Ends.at (by simp) (herr rE.e) ((hp0.trans hv10).trans hv11)
end Go.Hb
end

