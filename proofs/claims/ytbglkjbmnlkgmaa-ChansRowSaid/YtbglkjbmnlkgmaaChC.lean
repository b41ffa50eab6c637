import Derived.Test.YtbglkjbmnlkgmaaChB
import Derived.Test.YtbglkjbmnlkgmaaHbY
namespace Go.Hb
open Go Go.Proofs Go.RowKit

/-- A state of n channels, its rows at q, r and p. -/
def core (q r p n : Nat) : List LV := [.int .i64 0, .nils, .nils, .nils, .ref 1 q 0 n true, .nils, .nils, .nils, .ref 1 r 0 n true, .ref 1 p 0 n true]

set_option maxHeartbeats 2000000 in
theorem waits1_c {l i1 i2 id q r p n : Nat} {t : Int} {R : List (List Int)} {J : Nat → List AObj → List Nat → Prop} {s : List AObj} {v : List Nat} (hn : n ≤ 1000000) (hR : R.length = n) (hb : ∀ x ∈ R, x.length ≤ 1000000) (h0 : J 0 s v)
    (hJ : ∀ k s v, J k s v → s[i1]? = some (.cells [.ptr id 0]) ∧ s[i2]? = some (.cells [.int .i64 t]) ∧ s[id]? = some (.cells (core q r p n)) ∧
      ∃ cs, s[p]? = some (.cells cs) ∧ cs.length = n ∧ ∀ (hk : k < R.length), cs[k]? = some (encI R[k]))
    (hN : ∀ k s v, J k s v → ∀ (hk : k < R.length), t ∉ R[k] → J (k + 1) s v)
    (hY : ∀ k s v, J k s v → ∀ (hk : k < R.length), t ∈ R[k] → aRound Try.prog l [.int .i64 k] s v fun x s' v' => x = .bool true ∧ J (k + 1) s' v') :
    aCalls Try.prog 45 [.yld l, .ptr i1 0, .ptr i2 0] s v fun _ s' v' => J n s' v' := by
  refine aCalls_of Try.func45 rfl (by decide) (by simp [Try.ntmps45]) false ?_
  obtain ⟨a1, a2, a3, cs, a4, a5, a6⟩ := hJ 0 s v h0
  simp [Try.f45]
  refine aW_scopeC false ?_
  simp [a1, a3, core]
  refine aW_loopC false (fun st => ∃ k : Nat, k ≤ n ∧ st.t 13 = .int .i64 k ∧ st.t 12 = .int .i64 n ∧ st.t 11 = .ref 1 p 0 n true ∧ st.t 0 = .yld l ∧ st.t 2 = .ptr i2 0 ∧ J k st.s st.v) (fun st => n - numOf (st.t 13)) ?_ ?_
  · exact ⟨0, by simp [upd_apply, h0]⟩
  rintro t1 s1 v1 ⟨k, hk, h13, h12, h11, hy, h2, hJk⟩
  simp only at h13 h12 h11 hy h2 hJk
  by_cases hlt : k < n
  · have hlt' : (k : Int) < (n : Int) := by omega
    have hw := wrap_succ hlt hn
    have hkR : k < R.length := by omega
    obtain ⟨b1, b2, b3, cs, b4, b5, b6⟩ := hJ k s1 v1 hJk
    have b6 := b6 hkR
    have hck : k < cs.length := by omega
    rw [List.getElem?_eq_getElem hck, Option.some_inj] at b6
    have hbk := hb _ (List.getElem_mem hkR)
    have hN' := fun h => hN k s1 v1 hJk hkR h
    have hY' := fun h => hY k s1 v1 hJk hkR h
    generalize R[k] = L at b6 hbk hN' hY'
    simp [h13, h12, h11, hy, h2, hlt, b4, b5, b6, encI]
    refine aW_loopC false (fun st => ∃ j : Nat, j ≤ L.length ∧ (∀ i (hi : i < L.length), i < j → L[i] ≠ t) ∧ st.t 20 = .int .i64 j ∧ st.t 19 = .int .i64 L.length ∧ st.t 18 = encI L ∧ st.t 4 = .int .i64 k ∧ st.t 13 = .int .i64 k ∧ st.t 12 = .int .i64 n ∧ st.t 11 = .ref 1 p 0 n true ∧ st.t 0 = .yld l ∧ st.t 2 = .ptr i2 0 ∧ s1 = st.s ∧ v1 = st.v) (fun st => L.length - numOf (st.t 20)) ?_ ?_
    · exact ⟨0, by simp [upd_apply, h13, h12, h11, hy, h2, encI]⟩
    rintro t2 s2 v2 ⟨j, hj, hno, h20, h19, h18, h4, h13, h12, h11, hy, h2, rfl, rfl⟩
    simp only at h20 h19 h18 h4 h13 h12 h11 hy h2
    by_cases hjl : j < L.length
    · have hwj := wrap_succ hjl hbk
      have hjl' : (j : Int) < (L.length : Int) := by omega
      have hje : (L.map (LV.int .i64))[j]? = some (.int .i64 L[j]) := by simp [hjl]
      by_cases he : L[j] = t
      · have hmem : t ∈ L := by rw [← he]; exact List.getElem_mem hjl
        simp [h20, h19, h18, h4, h13, h12, h11, hy, h2, hjl, encI, b2, he]
        refine aRound_mono (hY' hmem) ?_
        rintro _ s' v' ⟨rfl, hJ1⟩
        simp [h13, h12, h11, hy, h2, hw, numOf]
        exact ⟨⟨k + 1, by omega, rfl, hJ1⟩, by omega⟩
      · simp [h20, h19, h18, h4, h13, h12, h11, hy, h2, hjl, encI, b2, he, hwj, numOf]
        exact ⟨⟨j + 1, by omega, fun i hi hi2 => by by_cases e : i = j
                                                    · subst e; exact he
                                                    · exact hno i hi (by omega), rfl⟩, by omega⟩
    · simp [h20, h19, h18, h4, h13, h12, h11, hy, h2, hjl, hw, numOf]
      refine ⟨⟨k + 1, by omega, rfl, hN' fun hm => ?_⟩, by omega⟩
      obtain ⟨i, hi, e⟩ := List.getElem_of_mem hm
      exact hno i hi (by omega) e
  · have hlt' : ¬ (k : Int) < (n : Int) := by omega
    have : k = n := by omega
    subst this
    simp [h13, h12]
    exact hJk
end Go.Hb
