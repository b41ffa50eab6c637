/-
  A layer for reasoning about the program's calls, and contracts of its functions (E3). CONDITIONS: none; each theorem bears its own.
-/
import Derived.Test.YtodibkcciihodaaE2
set_option linter.unusedVariables false
set_option linter.unusedSimpArgs false
section
namespace Go.Hb
open Go Go.Proofs Go.RowKit
attribute [-simp] aC aL aOper aThen aInBlock aIf aPlan aAppend

theorem list_h {s0 s' : List AObj} {v : List Nat} {hp mid : Nat} {R : List Tm} {st : Int} (H : HeapAt s0 s' hp mid R st) (hn : R.length ≤ 1000) : aCalls Try.prog 24 [.ptr hp 0] s' v fun y s2 v2 => encI (ks R) = y ∧ s' = s2 ∧ v <+: v2 := by
  obtain ⟨lo, ts, h1, h2, h3, h4⟩ := H.ex
  exact list_c h1 h2 hn

set_option maxRecDepth 10000 in
set_option maxHeartbeats 16000000 in
theorem playsLaw_c {L : List Deed} (hlen : L.length ≤ maxLen) : aCalls Try.prog 6 [deeds L] [] [] fun y _ _ => y = .bool true := by
  refine aCalls_of Try.func6 rfl (by decide) (by simp [Try.ntmps6]) false ?_
  have hres : Try.f6.results = #[.tmp 2] := rfl
  simp [Try.ntmps6, deeds]
  refine aCalls_mono (new_h [] []) ?_
  rintro _ s0 _ ⟨rfl, H0, _, rfl⟩
  simp
  refine aW_weak_at 4 (x := rf []) (by simp [upd_apply]; exact Weak.nils _ _ (.inl rfl)) ?_
  refine aW_forC false 60 (fun k st => ∃ R stp, HeapAt s0 st.s 1 0 R stp ∧ R.length ≤ k ∧ 0 ≤ stp ∧ stp ≤ (k : Int) * 300000 ∧ st.t 4 = rf R ∧ st.t 3 = .ptr 1 0 ∧ st.t 0 = .imm 3 L.length (dcs L) .no ∧ st.t 5 = .int .i64 k) ?_ ?_
  · exact ⟨0, by omega, [], 0, H0, by simp, by omega, by simp, by simp [upd_apply], by simp [upd_apply], by simp [upd_apply], by simp [upd_apply]⟩
  rintro k t1 s1 v1 hk ⟨R, stp, H1, hR, hs0, hs1, h4, h3, h0, h5⟩
  simp only at h4 h3 h0 h5 H1
  by_cases hlt : k < L.length
  · by_cases h80 : k < 60
    · have h80' : (k : Int) < 60 := by omega
      have hw := wrap_succ (n := 100) (k := k) (by omega) (by omega)
      have g3 := dcs_three hlt
      have hl := dcs_len L
      have b1 : k * 3 + 3 ≤ L.length * 3 := by omega
      have b2 : 3 ≤ L.length * 3 - k * 3 := by omega
      have hdl := dg_le (R.length + 1)
      have hM := doN_le R L[k]
      have hMD : doN R L[k] * dg (R.length + 1) ≤ 81 * 81 := Nat.mul_le_mul (by omega) (by omega)
      have hRl := doR_len R L[k]
      simp [h0, h5, h4, h3, hlt, h80, h80', g3, hl, b1, b2]
      refine aCalls_mono (does_c (v := v1) H1 L[k] (by omega) (by omega)) ?_
      rintro _ s2 v2 ⟨rfl, ⟨N, hN, H2⟩, hv2⟩
      obtain ⟨Z, hZ⟩ : ∃ Z, Z = doR R L[k] := ⟨_, rfl⟩
      rw [← hZ] at H2 hRl ⊢
      simp [h3, rf]
      refine aCalls_mono (len_h (v := v2) H2) ?_
      rintro _ _ _ ⟨rfl, rfl, rfl⟩
      simp [h3]
      refine aCalls_mono (list_h (v := v2) H2 (by omega)) ?_
      rintro _ _ v3 ⟨rfl, rfl, hv3⟩
      simp
      refine aCalls_mono (keys_p (R := Z) (by omega) _ _) ?_
      rintro _ _ v4 ⟨rfl, rfl, hv4⟩
      simp
      refine aCalls_mono (sameInts_p (by rw [ks_len]; omega) _ _) ?_
      rintro _ _ _ ⟨rfl, rfl, rfl⟩
      simp [h3]
      refine aCalls_mono (first_h (v := v4) H2) ?_
      rintro _ _ _ ⟨rfl, rfl, rfl⟩
      cases Z with
      | nil =>
        simp [firstV, rcs, flat, h5, hw]
        exact hid ⟨by omega, [], stp + (N : Nat), H2, by simp, by omega, by omega, by simp [upd_apply, rf, rcs, flat], by simp [upd_apply, h3], by simp [upd_apply, h0], by simp [upd_apply]⟩
      | cons t Z =>
        have r0 : rcs (t :: Z) = .int .i64 t.2 :: .int .i64 t.1 :: rcs Z := by simp [rcs, flat, tc, sw]
        simp [firstV, r0, h5, hw]
        exact hid ⟨by omega, t :: Z, stp + (N : Nat), H2, by omega, by omega, by omega, by simp [upd_apply, rf, r0], by simp [upd_apply, h3], by simp [upd_apply, h0], by simp [upd_apply]⟩
    · have h80' : ¬ ((k : Int) < 60) := by omega
      simp [h0, h5, hlt, h80, h80']
      refine aCalls_mono (lives_p _ _) ?_
      rintro _ _ _ ⟨rfl, rfl, hv⟩
      simp [hres]
  · simp [h0, h5, hlt]
    refine aCalls_mono (lives_p _ _) ?_
    rintro _ _ _ ⟨rfl, rfl, hv⟩
    simp [hres]
end Go.Hb
end

section
namespace Go.Hb
open Go Go.Proofs Go.RowKit
attribute [-simp] aC aL aOper aThen aInBlock aIf aPlan aAppend

set_option maxRecDepth 10000 in
set_option maxHeartbeats 32000000 in
theorem rowLaw_c {l a : List Int} (hl : Ints l) (ha : Ints a) : aCalls Try.prog 7 [encI l, encI a] [] [] fun y _ _ => y = .bool true := by
  obtain ⟨hl1, hl2⟩ := hl
  obtain ⟨ha1, ha2⟩ := ha
  refine aCalls_of Try.func7 rfl (by decide) (by simp [Try.ntmps7]) false ?_
  have hres : Try.f7.results = #[.tmp 4] := rfl
  simp [Try.ntmps7, encI]
  refine aCalls_mono (new_h [] []) ?_
  rintro _ s0 _ ⟨rfl, H0, _, rfl⟩
  simp
  refine aW_weak_at 6 (x := rf []) (by simp [upd_apply]; exact Weak.nils _ _ (.inl rfl)) ?_
  refine aW_forC false 40 (fun k st => ∃ R stp, HeapAt s0 st.s 1 0 R stp ∧ R.length ≤ k ∧ 0 ≤ stp ∧ stp ≤ (k : Int) * 300000 ∧ (∀ t ∈ R, t.1 ≤ 9223372036854775807) ∧ st.t 6 = rf R ∧ st.t 5 = .ptr 1 0 ∧ st.t 0 = encI l ∧ st.t 1 = encI a ∧ st.t 7 = .int .i64 k) ?_ ?_
  · exact ⟨0, by omega, [], 0, H0, by simp, by omega, by simp, by simp, by simp [upd_apply], by simp [upd_apply], by simp [upd_apply, encI], by simp [upd_apply, encI], by simp [upd_apply]⟩
  rintro k t1 s1 v1 hk ⟨R, stp, H1, hR, hs0, hs1, hat, h6, h5, h0, h1, h7⟩
  simp only at h6 h5 h0 h1 h7 H1
  by_cases hc : k < l.length ∧ k < a.length ∧ k < 40
  · obtain ⟨hlt, hla, h30⟩ := hc
    have h30' : (k : Int) < 40 := by omega
    have hw := wrap_succ (n := 100) (k := k) (by omega) (by omega)
    have hdl := dg_le (R.length + 1)
    have hak := ha1 _ (List.getElem_mem hla)
    simp [h0, h1, h7, hlt, hla, h30, h30', encI, h5]
    refine aW_draw' (.qs [0, 1, 2, 3, 4, 5, 6, 7, 8] (.w 9 [] .nil)) mixed (by kernel_rfl) (by kernel_rfl) ?_
    simp [h0, h1, h7, hlt, hla, encI, h5]
    refine aCalls_mono (set_h (v := v1) H1 l[k] a[k] (by omega) (by omega)) ?_
    rintro _ s2 _ ⟨rfl, ⟨N, hN, H2⟩, rfl⟩
    simp
    refine aW_draw' (.qs [0, 1, 2, 3, 4, 5, 6, 7, 8] (.w 9 [] (.qs [10, 11, 12, 13, 14] .nil))) mixed (by kernel_rfl) (by kernel_rfl) ?_
    simp [h0, h1, h6, h7, hlt, hla, encI]
    refine aCalls_mono (refSet_p (by omega) _ _) ?_
    rintro _ _ v2 ⟨rfl, rfl, hv2⟩
    simp [h7, hw]
    have hsl := refSet_len R l[k] a[k]
    refine hid ⟨by omega, refSet R l[k] a[k], stp + N, H2, by omega, by omega, by omega, fun t ht => ?_, by simp [upd_apply], by simp [upd_apply, h5], by simp [upd_apply, h0, encI], by simp [upd_apply, h1, encI], by simp [upd_apply]⟩
    rcases refSet_mem.1 ht with rfl | ⟨h, _⟩
    · exact hak.2
    · exact hat t h
  · have hkey := H1.good.1
    have hz := all_early (R := R) (now := 9223372036854775807) hat
    rcases (by omega : ¬ k < l.length ∨ (k < l.length ∧ ¬ k < a.length) ∨ (k < l.length ∧ k < a.length ∧ ¬ k < 40)) with hlt | ⟨hlt, hla⟩ | ⟨hlt, hla, h30⟩
    all_goals
      first
        | simp [h0, h1, h7, hlt, hla, h30, show ¬ ((k : Int) < 40) by omega, encI, h5]
        | simp [h0, h1, h7, hlt, hla, encI, h5]
        | simp [h0, h1, h7, hlt, encI, h5]
      refine aCalls_mono (list_h (v := v1) H1 (by omega)) ?_
      rintro _ _ v2 ⟨rfl, rfl, hv2⟩
      simp [h6, rf, encI, ks_len]
      refine aW_forC false R.length (fun j st => st.t 11 = .int .i64 j ∧ st.t 10 = encI (ks R) ∧ st.t 6 = rf R ∧ st.t 5 = .ptr 1 0 ∧ s1 = st.s) ?_ ?_
      · exact ⟨0, Nat.zero_le _, by simp [upd_apply], by simp [upd_apply, encI, ks_len], by simp [upd_apply, h6, rf], by simp [upd_apply, h5], rfl⟩
      rintro j t2 s2 v3 hj ⟨i11, i10, i6, i5, rfl⟩
      simp only at i11 i10 i6 i5
      by_cases hjl : j < R.length
      · have hw := wrap_succ (n := 100) (k := j) (by omega) (by omega)
        have hj3 : j < (ks R).length := by rw [ks_len]; exact hjl
        have hkk : (ks R)[j] = R[j].2 := by simp [ks]
        have hat2 := at_h (v := v3) H1 R[j].2
        rw [atV_mem hkey (List.getElem_mem hjl)] at hat2
        have g0 := rcs_get0 hjl
        have g1 := rcs_get1 hjl
        simp [i11, i10, encI, ks_len, hjl, hj3, hkk, i5]
        refine aCalls_mono hat2 ?_
        rintro _ _ _ ⟨rfl, rfl, rfl⟩
        simp
        refine aW_draw' (.qs [0, 1, 2, 3, 4, 5, 6, 7, 8, 9, 10, 11, 12, 13, 14, 15, 16, 17, 18, 19, 20, 21, 22] .nil) mixed (by kernel_rfl) (by kernel_rfl) ?_
        simp [i11, i10, i6, rf, encI, ks_len, hjl, hj3, hkk, g0, g1, hw]
        exact hid ⟨hjl, by simp [upd_apply], by simp [upd_apply, i10, encI, ks_len], by simp [upd_apply, i6, rf], by simp [upd_apply, i5], rfl⟩
      · simp [i11, i10, encI, ks_len, hjl, i5]
        refine aCalls_mono (due_h (v := v3) H1 9223372036854775807 (by omega) (by omega)) ?_
        rintro _ s3 v4 ⟨rfl, ⟨N, hN, H3⟩, hv4⟩
        rw [hz.2] at H3
        rw [hz.1]
        simp [i10]
        refine aCalls_mono (sameInts_p (by rw [ks_len]; omega) _ _) ?_
        rintro _ _ _ ⟨rfl, rfl, rfl⟩
        simp [i5]
        refine aCalls_mono (len_h (v := v4) H3) ?_
        rintro _ _ _ ⟨rfl, rfl, rfl⟩
        simp
        refine aCalls_mono (lives_p _ _) ?_
        rintro _ _ _ ⟨rfl, rfl, hv⟩
        simp [hres]
end Go.Hb
end

