/-
  A layer for reasoning about the program's calls, and contracts of its functions (D9). CONDITIONS: none; each theorem bears its own.
-/
import Derived.Test.YtodibkcciihodaaD8
set_option linter.unusedVariables false
set_option linter.unusedSimpArgs false
namespace Go.Hb
open Go Go.Proofs Go.RowKit
attribute [-simp] aC aL aOper aThen aInBlock aIf aPlan aAppend

theorem lt2_irr (a : Tm) : ¬ lt2 a a = true := by rw [lt2_iff]; omega
theorem sorted_unique : ∀ {A B : List Tm}, (A.Pairwise fun a b => lt2 a b = true) → (B.Pairwise fun a b => lt2 a b = true) → (∀ t, t ∈ A ↔ t ∈ B) → A = B
  | [], [], _, _, _ => rfl
  | [], b :: B, _, _, h => by have := (h b).2 List.mem_cons_self; simp at this
  | a :: A, [], _, _, h => by have := (h a).1 List.mem_cons_self; simp at this
  | a :: A, b :: B, hA, hB, h => by
    obtain ⟨a1, a2⟩ := List.pairwise_cons.1 hA
    obtain ⟨b1, b2⟩ := List.pairwise_cons.1 hB
    have e : a = b := by
      rcases List.mem_cons.1 ((h a).1 List.mem_cons_self) with e | e
      · exact e
      · rcases List.mem_cons.1 ((h b).2 List.mem_cons_self) with e2 | e2
        · exact e2.symm
        · exact absurd (lt2_trans (a1 b e2) (b1 a e)) (lt2_irr a)
    subst e
    rw [sorted_unique a2 b2 fun t => ⟨fun ht => ?_, fun ht => ?_⟩]
    · rcases List.mem_cons.1 ((h t).1 (List.mem_cons_of_mem _ ht)) with e | e
      · subst e; exact absurd (a1 t ht) (lt2_irr t)
      · exact e
    · rcases List.mem_cons.1 ((h t).2 (List.mem_cons_of_mem _ ht)) with e | e
      · subst e; exact absurd (b1 t ht) (lt2_irr t)
      · exact e
theorem ks_mem {R : List Tm} {key : Int} : key ∈ ks R ↔ ∃ t ∈ R, t.2 = key := by unfold ks; rw [List.mem_map]
theorem ks_set {R : List Tm} {key0 at_ key : Int} : key ∈ ks (refSet R key0 at_) ↔ key = key0 ∨ key ∈ ks R := by
  rw [ks_mem, ks_mem]
  constructor
  · rintro ⟨t, ht, rfl⟩
    rcases refSet_mem.1 ht with rfl | ⟨h, _⟩
    · exact .inl rfl
    · exact .inr ⟨t, h, rfl⟩
  · rintro (rfl | ⟨t, ht, rfl⟩)
    · exact ⟨(at_, key), refSet_mem.2 (.inl rfl), rfl⟩
    · by_cases e : t.2 = key0
      · exact ⟨(at_, key0), refSet_mem.2 (.inl rfl), e.symm⟩
      · exact ⟨t, refSet_mem.2 (.inr ⟨ht, e⟩), rfl⟩
theorem had_true {R : List Tm} {key : Int} (h : key ∈ ks R) : (refCancel R key).length < R.length := by
  obtain ⟨t, ht, e⟩ := ks_mem.1 h
  unfold refCancel
  rw [List.length_filter_lt_length_iff_exists]
  exact ⟨t, ht, by simp [e]⟩
theorem take_one {l : List Int} {k : Nat} (h : k < l.length) (key : Int) : key ∈ l.take (k + 1) ↔ key = l[k] ∨ key ∈ l.take k := by
  have e : l.take (k + 1) = l.take k ++ [l[k]] := by rw [List.take_add_one, List.getElem?_eq_getElem h]; rfl
  rw [e, List.mem_append, List.mem_singleton, or_comm]

/-- What is set anew: two rows that agree at the keys so far. -/
structure Anew (M : List Int) (K : List Int) (HR r : List Tm) : Prop where
  a : ∀ key, key ∈ ks HR ↔ key ∈ M
  c : ∀ t : Tm, t.2 ∈ K → (t ∈ HR ↔ t ∈ r)
  d : ∀ t ∈ r, t.2 ∈ K ∧ t.1 ≤ 999
  s : r.Pairwise fun a b => lt2 a b = true
theorem Anew.set {M K K' : List Int} {HR r : List Tm} {key at_ : Int} (h : Anew M K HR r) (hM : key ∈ M) (hK : ∀ x, x ∈ K' ↔ x = key ∨ x ∈ K) (hat : at_ ≤ 999) : Anew M K' (refSet HR key at_) (refSet r key at_) where
  a x := by
    rw [ks_set, h.a]
    exact ⟨fun e => e.elim (fun e => e ▸ hM) id, .inr⟩
  c t ht := by
    rw [refSet_mem, refSet_mem]
    rcases (hK _).1 ht with e | e
    · constructor
      · rintro (h1 | ⟨_, h2⟩)
        · exact .inl h1
        · exact absurd e h2
      · rintro (h1 | ⟨_, h2⟩)
        · exact .inl h1
        · exact absurd e h2
    · rw [h.c t e]
  d t ht := by
    rcases refSet_mem.1 ht with rfl | ⟨h1, _⟩
    · exact ⟨(hK _).2 (.inl rfl), hat⟩
    · exact ⟨(hK _).2 (.inr (h.d t h1).1), (h.d t h1).2⟩
  s := refSet_sorted h.s _ _
theorem Anew.all {M K : List Int} {HR r : List Tm} (h : Anew M K HR r) (hs : HR.Pairwise fun a b => lt2 a b = true) (hk : ∀ x ∈ M, x ∈ K) : HR = r :=
  sorted_unique hs h.s fun t => ⟨fun ht => (h.c t (hk _ ((h.a _).1 (ks_mem.2 ⟨t, ht, rfl⟩)))).1 ht, fun ht => (h.c t (h.d t ht).1).2 ht⟩

set_option maxRecDepth 10000 in
set_option maxHeartbeats 32000000 in
theorem movesLaw_c {l a : List Int} (hl : Ints l) (ha : Ints a) : aCalls Try.prog 4 [encI l, encI a] [] [] fun y _ _ => y = .bool true := by
  obtain ⟨hl1, hl2⟩ := hl
  obtain ⟨ha1, ha2⟩ := ha
  refine aCalls_of Try.func4 rfl (by decide) (by simp [Try.ntmps4]) false ?_
  have hres : Try.f4.results = #[.tmp 4] := rfl
  simp [Try.ntmps4, encI]
  refine aCalls_mono (new_h [] []) ?_
  rintro _ s0 _ ⟨rfl, H0, _, rfl⟩
  simp
  refine aW_weak_at 6 (x := rf []) (by simp [upd_apply]; exact Weak.nils _ _ (.inl rfl)) ?_
  refine aW_forC false 30 (fun k st => ∃ R stp, HeapAt s0 st.s 1 0 R stp ∧ R.length ≤ k ∧ 0 ≤ stp ∧ stp ≤ (k : Int) * 300000 ∧ (∀ key, key ∈ ks R ↔ key ∈ l.take k) ∧ st.t 6 = rf [] ∧ st.t 5 = .ptr 1 0 ∧ st.t 0 = encI l ∧ st.t 1 = encI a ∧ st.t 7 = .int .i64 k) ?_ ?_
  · exact ⟨0, by omega, [], 0, H0, by simp, by omega, by simp, by simp [ks], by simp [upd_apply], by simp [upd_apply], by simp [upd_apply, encI], by simp [upd_apply, encI], by simp [upd_apply]⟩
  rintro k t1 s1 v1 hk ⟨R, stp, H1, hR, hs0, hs1, hks, h6, h5, h0, h1, h7⟩
  simp only at h6 h5 h0 h1 h7 H1
  by_cases hc : k < l.length ∧ k < 30
  · obtain ⟨hlt, h30⟩ := hc
    have h30' : (k : Int) < 30 := by omega
    have hw := wrap_succ (n := 100) (k := k) (by omega) (by omega)
    have hdl := dg_le (R.length + 1)
    simp [h0, h7, hlt, h30, h30', encI, h5]
    refine aCalls_mono (set_h (v := v1) H1 l[k] k (by omega) (by omega)) ?_
    rintro _ s2 _ ⟨rfl, ⟨N, hN, H2⟩, rfl⟩
    simp [h7, hw]
    have hsl := refSet_len R l[k] k
    exact hid ⟨by omega, refSet R l[k] k, stp + N, H2, by omega, by omega, by omega, fun key => by rw [ks_set, hks, take_one hlt], by simp [upd_apply, h6], by simp [upd_apply, h5], by simp [upd_apply, h0, encI], by simp [upd_apply, h1, encI], by simp [upd_apply]⟩
  · have hM : ∀ key, key ∈ ks R ↔ key ∈ l.take 30 := fun key => by
      rw [hks]
      rcases (by omega : k = 30 ∨ (l.length ≤ k ∧ l.length ≤ 30)) with rfl | ⟨e1, e2⟩
      · exact Iff.rfl
      · rw [List.take_of_length_le e1, List.take_of_length_le e2]
    rcases (by omega : ¬ k < l.length ∨ (k < l.length ∧ ¬ k < 30)) with hlt | ⟨hlt, h30⟩
    all_goals
      first
        | simp [h0, h7, hlt, h30, show ¬ ((k : Int) < 30) by omega, encI]
        | simp [h0, h7, hlt, encI]
      refine aW_forC false 30 (fun j st => ∃ HR r stp, HeapAt s0 st.s 1 0 HR stp ∧ HR.length ≤ 30 + j ∧ r.length ≤ j ∧ 0 ≤ stp ∧ stp ≤ 9000000 + (j : Int) * 300000 ∧ Anew (l.take 30) (l.take j) HR r ∧ st.t 6 = rf r ∧ st.t 5 = .ptr 1 0 ∧ st.t 0 = encI l ∧ st.t 1 = encI a ∧ st.t 8 = .int .i64 j) ?_ ?_
      · exact ⟨0, by omega, R, [], stp, H1, by omega, by simp, hs0, by omega, ⟨hM, by simp, by simp, .nil⟩, by simp [upd_apply, h6], by simp [upd_apply, h5], by simp [upd_apply, h0], by simp [upd_apply, h1], by simp [upd_apply]⟩
      rintro j t2 s2 v2 hj ⟨HR, r, stp2, H2, hHR, hr, hs2, hs3, hA, i6, i5, i0, i1, i8⟩
      simp only at i6 i5 i0 i1 i8 H2
      by_cases hd : j < l.length ∧ j < 30
      · obtain ⟨jl, j30⟩ := hd
        have j30' : (j : Int) < 30 := by omega
        have hw := wrap_succ (n := 100) (k := j) (by omega) (by omega)
        have hdl := dg_le (HR.length + 1)
        have hMj : l[j] ∈ l.take 30 := by
          rw [List.mem_take_iff_getElem]
          exact ⟨j, by omega, rfl⟩
        have hhad := had_true ((hA.a l[j]).2 hMj)
        obtain ⟨at_, hat⟩ : ∃ at_ : Int, at_ = if hh : j < a.length then Int.tmod a[j] 1000 else j := ⟨_, rfl⟩
        have hat9 : at_ ≤ 999 := by
          rw [hat]
          split
          · have := Int.tmod_lt_of_pos a[j] (b := 1000) (by omega); omega
          · omega
        have hnext := hA.set hMj (take_one jl) hat9
        have hl1' := refSet_len HR l[j] at_
        have hl2' := refSet_len r l[j] at_
        have hr' : r.length ≤ 400000 := by omega
        by_cases hja : j < a.length
        · rw [dif_pos hja] at hat
          have hb1 := Int.tmod_lt_of_pos a[j] (b := 1000) (by omega)
          have hb2 := Int.lt_tmod_of_pos a[j] (b := 1000) (by omega)
          have hwt : IntKind.i64.wrap (Int.tmod a[j] 1000) = Int.tmod a[j] 1000 := IntWalk.i64_in _ ⟨by omega, by omega⟩
          subst hat
          simp [i0, i8, jl, j30, j30', encI, i1, hja, i5, hwt]
          refine aCalls_mono (set_h (v := v2) H2 l[j] _ (by omega) (by omega)) ?_
          rintro _ s3 _ ⟨rfl, ⟨N, hN, H3⟩, rfl⟩
          simp [i0, i8, i6, encI, jl, hhad]
          refine aCalls_mono (refSet_p hr' _ _) ?_
          rintro _ _ v3 ⟨rfl, rfl, hv3⟩
          simp [hw, i8]
          exact hid ⟨by omega, refSet HR l[j] _, refSet r l[j] _, stp2 + N, H3, by omega, by omega, by omega, by omega, hnext, by simp [upd_apply], by simp [upd_apply, i5], by simp [upd_apply, i0, encI], by simp [upd_apply, i1, encI], by simp [upd_apply]⟩
        · rw [dif_neg hja] at hat
          subst hat
          simp [i0, i8, jl, j30, j30', encI, i1, hja, i5]
          refine aCalls_mono (set_h (v := v2) H2 l[j] _ (by omega) (by omega)) ?_
          rintro _ s3 _ ⟨rfl, ⟨N, hN, H3⟩, rfl⟩
          simp [i0, i8, i6, encI, jl, hhad]
          refine aCalls_mono (refSet_p hr' _ _) ?_
          rintro _ _ v3 ⟨rfl, rfl, hv3⟩
          simp [hw, i8]
          exact hid ⟨by omega, refSet HR l[j] _, refSet r l[j] _, stp2 + N, H3, by omega, by omega, by omega, by omega, hnext, by simp [upd_apply], by simp [upd_apply, i5], by simp [upd_apply, i0, encI], by simp [upd_apply, i1, encI], by simp [upd_apply]⟩
      · have hall : HR = r := hA.all H2.good.2 fun x hx => by
          rcases (by omega : j = 30 ∨ (l.length ≤ j ∧ l.length ≤ 30)) with rfl | ⟨e1, e2⟩
          · exact hx
          · rw [List.take_of_length_le e1]; rwa [List.take_of_length_le e2] at hx
        subst hall
        have hd9 := fun t ht => (hA.d t ht).2
        rcases (by omega : ¬ j < l.length ∨ (j < l.length ∧ ¬ j < 30)) with jl | ⟨jl, j30⟩
        all_goals
          first
            | simp [i0, i8, jl, j30, show ¬ ((j : Int) < 30) by omega, encI]
            | simp [i0, i8, jl, encI]
          refine aW_forC false 30 (fun m st => ∃ Z stp, HeapAt s0 st.s 1 0 Z stp ∧ Z.length ≤ 60 ∧ 0 ≤ stp ∧ stp ≤ 20000000 + (m : Int) * 300000 ∧ (∀ t ∈ Z, t.1 ≤ 999) ∧ st.t 6 = rf Z ∧ st.t 5 = .ptr 1 0 ∧ st.t 0 = encI l ∧ st.t 13 = .int .i64 m) ?_ ?_
          · exact ⟨0, by omega, HR, stp2, H2, by omega, hs2, by omega, hd9, by simp [upd_apply, i6], by simp [upd_apply, i5], by simp [upd_apply, i0], by simp [upd_apply]⟩
          rintro m t3 s3 v3 hm ⟨Z, stp3, H3, hZ, hs4, hs5, hZ9, o6, o5, o0, o13⟩
          simp only at o6 o5 o0 o13 H3
          have hcl := refCancel_len Z
          have hdl := dg_le Z.length
          by_cases hf : m < l.length ∧ m < 30
          · obtain ⟨ml, m30⟩ := hf
            have m30' : (m : Int) < 30 := by omega
            have hw := wrap_succ (n := 100) (k := m) (by omega) (by omega)
            have hwt : IntKind.i64.wrap (Int.tmod l[m] 2) = Int.tmod l[m] 2 := by
              have h1 := Int.tmod_lt_of_pos l[m] (b := 2) (by omega)
              have h2 := Int.lt_tmod_of_pos l[m] (b := 2) (by omega)
              exact IntWalk.i64_in _ ⟨by omega, by omega⟩
            by_cases he : Int.tmod l[m] 2 = 0
            · simp [o0, o13, ml, m30, m30', encI, hwt, he, o6]
              refine aCalls_mono (refCancel_p (by omega) _ _) ?_
              rintro _ _ v4 ⟨rfl, rfl, hv4⟩
              simp [o0, o13, ml, encI, o5]
              refine aCalls_mono (cancel_h (v := v4) H3 l[m] (by omega)) ?_
              rintro _ s4 _ ⟨rfl, ⟨N, hN, H4⟩, rfl⟩
              simp [o13, hw]
              have := hcl l[m]
              exact hid ⟨by omega, refCancel Z l[m], stp3 + N, H4, by omega, by omega, by omega, fun t ht => hZ9 t (refCancel_mem.1 ht).1, by simp [upd_apply], by simp [upd_apply, o5], by simp [upd_apply, o0, encI], by simp [upd_apply]⟩
            · simp [o0, o13, ml, m30, m30', encI, hwt, he, hw]
              exact hid ⟨by omega, Z, stp3, H3, by omega, by omega, by omega, hZ9, by simp [upd_apply, o6], by simp [upd_apply, o5], by simp [upd_apply, o0, encI], by simp [upd_apply]⟩
          · have hz := all_early (R := Z) (now := 1000) fun t ht => by have := hZ9 t ht; omega
            rcases (by omega : ¬ m < l.length ∨ (m < l.length ∧ ¬ m < 30)) with ml | ⟨ml, m30⟩
            all_goals
              first
                | simp [o0, o13, ml, m30, show ¬ ((m : Int) < 30) by omega, encI, o5]
                | simp [o0, o13, ml, encI, o5]
              refine aCalls_mono (due_h (v := v3) H3 1000 (by omega) (by omega)) ?_
              rintro _ s4 v4 ⟨rfl, ⟨N, hN, H4⟩, hv4⟩
              rw [hz.2] at H4
              rw [hz.1]
              simp [o6]
              refine aCalls_mono (keys_p (R := Z) (by omega) _ _) ?_
              rintro _ _ v5 ⟨rfl, rfl, hv5⟩
              simp
              refine aCalls_mono (sameInts_p (by rw [ks_len]; omega) _ _) ?_
              rintro _ _ _ ⟨rfl, rfl, rfl⟩
              simp [o5]
              refine aCalls_mono (len_h (v := v5) H4) ?_
              rintro _ _ _ ⟨rfl, rfl, rfl⟩
              simp
              refine aCalls_mono (lives_p _ _) ?_
              rintro _ _ _ ⟨rfl, rfl, hv⟩
              simp [hres]
end Go.Hb
