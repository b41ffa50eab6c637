/-
  A layer for reasoning about the program's calls, and contracts of its functions (C6). CONDITIONS: none; each theorem bears its own.
-/
import Derived.Test.YtgaaocndjaoihaaL5
import Derived.Test.YtgaaocndjaoihaaC5
set_option linter.unusedVariables false
set_option linter.unusedSimpArgs false
section
namespace Go.Hb
open Go Go.Proofs Go.RowKit Go.ChangeShapes Go.WideShapes

section
variable {H : Type} {enc : TypeId × Value → H} {W : World}

def DeedG (p : Int × Int × Int × Int × List Int × Unit) : DeedV := ⟨p.1, p.2.1, p.2.2.1, p.2.2.2.1, p.2.2.2.2.1⟩

theorem opens_deed : Opens enc Try.prog W 35 DeedOk deedX := by
  have hi : Opens enc Try.prog W 3 I64 (fun n => [.int .i64 n]) := opens_i64 Try.underlying3
  have hl : Opens enc Try.prog W 25 Ints (fun l => [encI l]) := opens_ints Try.underlying25 Try.underlying3 (by kernel_rfl)
  refine opens_conv DeedG (opens_struct Try.underlying35 (N := 5) (by kernel_rfl)
    (opensFs_cons (m := 1) rfl (by kernel_rfl) hi (opensFs_cons (m := 1) rfl (by kernel_rfl) hi (opensFs_cons (m := 1) rfl (by kernel_rfl) hi (opensFs_cons (m := 1) rfl (by kernel_rfl) hi (opensFs_cons (m := 1) rfl (by kernel_rfl) hl (opensFs_nil 5))))))) ?_
  rintro ⟨a, b, c, d, l, u⟩ ⟨h1, h2, h3, h4, h5, _⟩
  exact ⟨⟨h1, h2, h3, h4, h5⟩, rfl⟩

theorem opens_deeds : Opens enc Try.prog W 23 (fun l : List DeedV => (∀ d ∈ l, DeedOk d) ∧ l.length ≤ maxLen) (fun l => [deeds l]) :=
  opens_slice Try.underlying23 (m := 5) (by kernel_rfl) (by omega) (fun _ _ => rfl) opens_deed

theorem opens_four : Opens enc Try.prog W 22 (fun l : List Int => l.length = 4 ∧ ∀ a ∈ l, I64 a) (fun l => l.map (.int .i64)) :=
  opens_conv id (opens_array Try.underlying22 (n := 4) (m := 1) (by kernel_rfl) (by kernel_rfl) (opens_i64 Try.underlying3)) fun l h => ⟨h, by simp only [flat_one]; rfl⟩
end
end Go.Hb
end

section
namespace Go.Hb
open Go Go.Proofs Go.RowKit
attribute [-simp] aC aL aOper aThen aInBlock aIf aPlan grow

/-- The objects behind the first three lines of a law. -/
def baseC (rooms : List Int) (q r p : Nat) : List AObj := anew [.cells (rooms.map (.int .i64))] q r p 4
theorem baseC_eq (rooms : List Int) {q r p : Nat} (h : fresh [AObj.cells (rooms.map (LV.int .i64))] q r p) (J : List AObj) :
    .cells (rooms.map (.int .i64)) :: .cells (core q r p 4) :: .cells (empt 4) :: .cells (empt 4) :: .cells (empt 4) :: .cells (core q r p 4) :: J = putC (baseC rooms q r p) q r p nulC ++ J := by
  have := anew_put (s := [AObj.cells (rooms.map (LV.int .i64))]) (n := 4) h
  unfold putC nulC baseC
  rw [this]; rfl

theorem baseC_len (rooms : List Int) (q r p : Nat) : (baseC rooms q r p).length = 6 := by simp [baseC, anew]
theorem set_last {α : Type} (X : List α) (a b : α) : (X ++ [a]).set X.length b = X ++ [b] := by
  rw [List.set_append_right _ _ (Nat.le_refl _)]; simp

set_option maxRecDepth 20000 in
set_option maxHeartbeats 16000000 in
theorem play_c {rooms : List Int} (hr : rooms.length = 4) (hri : ∀ a ∈ rooms, I64 a) {l : List DeedV} (hd : ∀ d ∈ l, DeedOk d) (hlen : l.length ≤ maxLen) :
    aCalls Try.prog 6 [four rooms, deeds l] [] [] fun y _ _ => y = .bool true := by
  refine aCalls_of Try.func6 rfl (by decide) (by simp [Try.ntmps6]) false ?_
  have hres : Try.f6.results = #[.tmp 4] := rfl
  simp [Try.ntmps6, four]
  refine aCalls_mono (by simpa using new_c (s := [.cells (rooms.map (.int .i64))]) (v := []) (n := 4) (by omega) (by omega)) ?_
  rintro _ _ _ ⟨q, r, p, hf, rfl, rfl, rfl⟩
  have Hb : Base (baseC rooms q r p) 5 q r p 4 := anew_base hf (by omega)
  simp [core]
  refine aCalls_mono (refNew_p (n := 4) (by omega) (by omega) _ _) ?_
  rintro _ _ _ ⟨rfl, rfl, rfl⟩
  simp [dcore]
  have e0 := baseC_eq rooms hf [.cells (dcore (nul 4) (nul 4) (nul 4))]
  simp only [core, dcore] at e0
  rw [e0]
  have hs := same_j (J := [.cells (dcore (nul 4) (nul 4) (nul 4))]) (v := []) Hb nul_inv
  refine aCalls_mono (by simpa [core, dc, dcore, nulC] using hs) ?_
  rintro _ _ _ ⟨rfl, rfl, rfl⟩
  simp
  have hB := baseC_len rooms q r p
  have hg0 : ∀ c X, (putC (baseC rooms q r p) q r p c ++ X)[6]? = X[0]? := fun c X => get_at0 (by simp [hB])
  have hg1 : ∀ c X k, (putC (baseC rooms q r p) q r p c ++ X)[6 + k]? = X[k]? := fun c X k => get_at (by simp [hB]) k
  have hs0 : ∀ c X o, (putC (baseC rooms q r p) q r p c ++ X).set 6 o = putC (baseC rooms q r p) q r p c ++ X.set 0 o := fun c X o => set_at0 (by simp [hB]) o
  have hs1 : ∀ c X k o, (putC (baseC rooms q r p) q r p c ++ X).set (6 + k) o = putC (baseC rooms q r p) q r p c ++ X.set k o := fun c X k o => set_at (by simp [hB]) k o
  have hz : 0 ≠ q ∧ 0 ≠ r ∧ 0 ≠ p := by unfold fresh at hf; simp at hf; omega
  have hgr : ∀ c X, (putC (baseC rooms q r p) q r p c ++ X)[0]? = some (.cells (rooms.map (.int .i64))) := fun c X => by
    rw [putC_at Hb hz.1 hz.2.1 hz.2.2 (by omega)]; rfl
  have hgc : ∀ c X, (putC (baseC rooms q r p) q r p c ++ X)[5]? = some (.cells (core q r p 4)) := fun c X => by
    rw [List.getElem?_append_left (by simp [hB])]; exact Hb.gi _ _ _
  have htk : List.take 4 (rooms.map (LV.int .i64)) = rooms.map (LV.int .i64) := List.take_of_length_le (by simp; omega)
  have htk2 : ∀ c : Chs, List.take 10 (dcore c.b c.s c.r) = dcore c.b c.s c.r := fun c => rfl
  refine aW_forC false (min 60 l.length) (fun k st => ∃ Jx, st.t 7 = .int .i64 k ∧ st.t 1 = deeds l ∧ st.t 2 = .ptr 0 0 ∧ st.t 5 = .ptr 5 0 ∧ st.t 6 = .ptr 6 0 ∧
    putC (baseC rooms q r p) q r p (runD rooms l k) ++ .cells (dcore (runD rooms l k).b (runD rooms l k).s (runD rooms l k).r) :: Jx = st.s) ?_ ?_
  · exact ⟨0, Nat.zero_le _, [], by simp [upd_apply], by simp [upd_apply], by simp [upd_apply], by simp [upd_apply], by simp [upd_apply], rfl⟩
  rintro k t1 s1 v1 hk ⟨Jx, h7, h1, h2, h5, h6, rfl⟩
  simp only at h7 h1 h2 h5 h6
  by_cases hlt : k < min 60 l.length
  · have hkl : k < l.length := by omega
    have hk60 : k < 60 := by omega
    have hkl' : (k : Int) < (l.length : Int) := by omega
    have hk60' : (k : Int) < 60 := by omega
    have hw := wrap_succ hk60 (by omega)
    have hI := run_inv rooms l k (by omega) (by omega)
    have hI2 := run_inv rooms l (k + 1) (by omega) (by omega)
    have hdk := hd _ (List.getElem_mem hkl)
    have hda := deeds_at l k hkl
    have hdl : (l.flatMap deedX).length = l.length * 5 := by
      clear hd hlen hk hlt hkl hkl' hI hI2 hdk hda h1 hk60 hk60' hw h7
      induction l with
      | nil => rfl
      | cons a l ih => rw [List.flatMap_cons, List.length_append, ih]; simp [deedX]; omega
    have hx5 : ∀ d, (deedX d).length = 5 := fun _ => rfl
    have htk5 : ∀ d X, List.take 5 (deedX d ++ X) = deedX d := fun d X => List.take_left' rfl
    have hj := fun J v => does_j (J := J) (v := v) Hb (run_inv rooms l k (by omega) (by omega)) (by omega) hr hri hdk
    generalize hc : runD rooms l k = c at *
    have hc2 : runD rooms l (k + 1) = stepD rooms l[k] c := by rw [runD_succ rooms hkl, hc]
    rw [hc2] at hI2
    simp [h7, h1, h2, h5, h6, deeds, hkl, hk60, hkl', hk60']
    refine aW_draw' (.qs [0, 1, 2, 3, 4, 5] (.or (.w 6 [] (.qs [7, 8, 9] (.w 10 [] (.w 11 [] (.qs [12] .nil))))) (.w 10 [5, 1, 0] (.w 6 [] (.qs [7, 8, 9] (.w 11 [] (.qs [12] .nil))))))) mixed (by kernel_rfl) (by kernel_rfl) ?_
    simp [h7, h1, h2, h5, h6, deeds, hkl, hk60, hkl', hk60', hg0, hg1, hgr, hgc, hda, htk, hr, dcore, hx5, htk5]
    have hsame := fun J v => same_j (J := J) (v := v) Hb hI2
    have hrd := fun (ch : Nat) (h : ch < 4) J v => chReady_j (J := J) (v := v) (ch := ch) Hb hI2 h
    have hrr := fun (ch : Nat) (h : ch < 4) s v => refReady_p (ch := ch) hI2 h s v
    have hse := fun (ch : Nat) (h : ch < 4) J v => chSenders_j (J := J) (v := v) (ch := ch) Hb hI2 h
    have hsr := fun (ch : Nat) (h : ch < 4) s v => refSenders_p (ch := ch) hI2 h s v
    have hsl : ∀ ch, ch < 4 → (firsts (row (stepD rooms l[k] c).s ch)).length ≤ 1000000 := fun ch h => by
      have h1 := hI2.sz.bs _ (row_mem (L := (stepD rooms l[k] c).s) (ch := ch) (by rw [hI2.sz.s]; exact h))
      have := firsts_le (row (stepD rooms l[k] c).s ch)
      omega
    generalize hc' : stepD rooms l[k] c = c' at *
    simp only [core, dc, dcore] at hsame hrd hrr hse hsr
    constructor
    all_goals
      refine aCalls_mono (hj _ _) ?_
      rintro _ _ v2 ⟨rfl, rfl, hv2⟩
      simp [h7, h1, h2, h5, h6, hg0, hg1, hs0, hs1, hgr, hgc, set_last, dc, dcore, core]
      refine aCalls_mono (hsame _ _) ?_
      rintro _ _ _ ⟨rfl, rfl, rfl⟩
      simp [h7, h1, h2, h5, h6, hg0, hg1, hs0, hs1, hgr, hgc, set_last]
      refine aW_forC false 4 (fun ch st => ∃ Jx, st.t 10 = .int .i64 ch ∧ st.t 7 = .int .i64 k ∧ st.t 1 = deeds l ∧ st.t 2 = .ptr 0 0 ∧ st.t 5 = .ptr 5 0 ∧ st.t 6 = .ptr 6 0 ∧
        putC (baseC rooms q r p) q r p c' ++ .cells (dcore c'.b c'.s c'.r) :: Jx = st.s) ?_ ?_
      · exact ⟨0, Nat.zero_le _, _, by simp [upd_apply], by simp [upd_apply, h7], by simp [upd_apply, h1, deeds], by simp [upd_apply, h2], by simp [upd_apply, h5], by simp [upd_apply, h6], rfl⟩
      clear h7 h1 h2 h5 h6
      rintro ch t2 s2 v3 hch ⟨Jy, h10, h7, h1, h2, h5, h6, rfl⟩
      simp only at h10 h7 h1 h2 h5 h6
      by_cases hc4 : ch < 4
      · have hc4' : (ch : Int) < 4 := by omega
        have hwc := wrap_succ hc4 (by omega)
        simp [h10, h7, h1, h2, h5, h6, hc4']
        refine aW_draw' (.qs [0, 1, 3, 4] (.w 2 [3] (.w 5 [] (.qs [6, 7, 8, 9, 11, 12] (.w 10 [11] (.w 13 [] (.w 14 [] (.qs [15, 16] .nil)))))))) mixed (by kernel_rfl) (by kernel_rfl) ?_
        simp [h10, h7, h1, h2, h5, h6, hg0, hg1, hgc, dcore, core]
        refine aCalls_mono (hrd ch hc4 _ _) ?_
        rintro _ _ _ ⟨rfl, rfl, rfl⟩
        simp [h10, h7, h1, h2, h5, h6, hg0, hg1, hgc, dcore, core]
        refine aCalls_mono (hrr ch hc4 _ _) ?_
        rintro _ _ _ ⟨rfl, rfl, rfl⟩
        simp [h10, h7, h1, h2, h5, h6, hg0, hg1, hgc, dcore, core]
        refine aCalls_mono (hse ch hc4 _ _) ?_
        rintro _ _ v4 ⟨rfl, rfl, hv4⟩
        simp [h10, h7, h1, h2, h5, h6, hg0, hg1, hgc, dcore, core]
        refine aCalls_mono (hsr ch hc4 _ _) ?_
        rintro _ _ v5 ⟨rfl, rfl, hv5⟩
        simp [h10, h7, h1, h2, h5, h6, hg0, hg1, hgc, dcore, core]
        refine aCalls_mono (sameInts_c (hsl ch hc4)) ?_
        rintro _ _ _ ⟨rfl, rfl, rfl⟩
        simp [h10, h7, h1, h2, h5, h6, hg0, hg1, hgc, dcore, core]
        exact hid ⟨hc4, _, by simp [upd_apply, hwc], by simp [upd_apply, h7], by simp [upd_apply, h1], by simp [upd_apply, h2], by simp [upd_apply, h5], by simp [upd_apply, h6], rfl⟩
      · have hge : ¬ ((ch : Int) < 4) := by omega
        simp [h10, h7, h1, h2, h5, h6, hge]
        exact hid ⟨hlt, _, by simp [upd_apply, hw], by simp [upd_apply, h1, deeds], by simp [upd_apply, h2], by simp [upd_apply, h5], by simp [upd_apply, h6], by rw [hc2]; rfl⟩
  · have hx : ¬ (k : Int) < (l.length : Int) ∨ ((k : Int) < (l.length : Int) ∧ ¬ (k : Int) < 60) := by omega
    rcases hx with h8 | ⟨h8, h9⟩
    · simp [h7, h1, h2, h5, h6, deeds, h8]
      refine aCalls_mono lives_c ?_
      rintro _ _ v2 ⟨rfl, rfl, hv2⟩
      simp [hres]
    · simp [h7, h1, h2, h5, h6, deeds, h8, h9]
      refine aCalls_mono lives_c ?_
      rintro _ _ v2 ⟨rfl, rfl, hv2⟩
      simp [hres]
end Go.Hb
end

