import Derived.Test.YtbglkjbmnlkgmaaChH
namespace Go.Hb
open Go Go.Proofs Go.RowKit

theorem around_c {a m : Int} {s : List AObj} {v : List Nat} (hm : 0 < m) (hm2 : m ≤ 1000000) (ha : -9223372036854775808 ≤ a) (ha2 : a ≤ 9223372036854775807) :
    aCalls Try.prog 14 [.int .i64 a, .int .i64 m] s v fun y s' v' => ∃ k : Nat, (k : Int) < m ∧ y = .int .i64 k ∧ s = s' ∧ v = v' := by
  refine aCalls_of Try.func14 rfl (by decide) (by simp [Try.ntmps14]) false ?_
  have hm0 : m ≠ 0 := by omega
  by_cases hn : a < 0
  · have h1 : IntKind.i64.wrap (a + 1) = a + 1 := IntWalk.i64_in _ ⟨by omega, by omega⟩
    have h2 : IntKind.i64.wrap (-(a + 1)) = -(a + 1) := IntWalk.i64_in _ ⟨by omega, by omega⟩
    have h2' : IntKind.i64.wrap (-1 + -a) = -(a + 1) := by rw [show -1 + -a = -(a + 1) by omega]; exact h2
    have hb := Int.tmod_nonneg (a := -(a + 1)) m (by omega)
    have hb2 := Int.tmod_lt_of_pos (-(a + 1)) hm
    have h3 : IntKind.i64.wrap (Int.tmod (-(a + 1)) m) = Int.tmod (-(a + 1)) m := IntWalk.i64_in _ ⟨by omega, by omega⟩
    have h4 : (Int.tmod (-(a + 1)) m).toNat = Int.tmod (-(a + 1)) m := by omega
    simp only [Int.neg_tmod] at h3
    simp [Try.f14, hn, hm0, h1, h2, h3]
    refine ⟨(Int.tmod (-(a + 1)) m).toNat, by omega, ?_⟩
    rw [h4, Int.neg_tmod]
  · have hb := Int.tmod_nonneg (a := a) m (by omega)
    have hb2 := Int.tmod_lt_of_pos a hm
    have h3 : IntKind.i64.wrap (Int.tmod a m) = Int.tmod a m := IntWalk.i64_in _ ⟨by omega, by omega⟩
    simp [Try.f14, hn, hm0, h3]
    exact ⟨(Int.tmod a m).toNat, by omega, by omega⟩

theorem sizes28 : sizesT Try.prog 28 = true := by kernel_rfl
theorem place28_4 : placeT Try.prog 28 4 = some (4, 1) := by kernel_rfl
theorem place28_8 : placeT Try.prog 28 8 = some (8, 1) := by kernel_rfl
theorem place28_9 : placeT Try.prog 28 9 = some (9, 1) := by kernel_rfl

/-- n empty rows. -/
def empt (n : Nat) : List LV := List.replicate n (encI [])

theorem WeakS.app (s : List AObj) {l l' : List AObj} (hl : l.length = l'.length) (h : ∀ (i : Nat) (o o' : AObj), l[i]? = some o → l'[i]? = some o' → WeakO o o') : WeakS (s ++ l) (s ++ l') :=
  ⟨by simp [hl], fun i o o' h1 h2 => by
    by_cases e : i < s.length
    · rw [List.getElem?_append_left e] at h1 h2
      rw [h1] at h2; cases h2; exact WeakO.refl o
    · rw [List.getElem?_append_right (by omega)] at h1 h2
      exact h _ _ _ h1 h2⟩
theorem empt_weak (n : Nat) : WeakO (.cells (zeros [.nils] n)) (.cells (empt n)) := by
  unfold WeakO zeros empt
  induction n with
  | zero => trivial
  | succ n ih => exact ⟨Weak.nils _ _ (.inl rfl), ih⟩

def fresh (s : List AObj) (q r p : Nat) : Prop := s.length < q ∧ q < s.length + 4 ∧ s.length < r ∧ r < s.length + 4 ∧ s.length < p ∧ p < s.length + 4 ∧ q ≠ r ∧ q ≠ p ∧ r ≠ p

set_option maxRecDepth 10000 in
set_option maxHeartbeats 2000000 in
theorem new_c {n : Nat} {s : List AObj} {v : List Nat} (hn : n ≤ 1000000) (h0 : n ≠ 0) :
    aCalls Try.prog 8 [.int .i64 n] s v fun y s' v' => ∃ q r p, fresh s q r p ∧ y = .agg (core q r p n) ∧ s ++ [.cells (core q r p n), .cells (empt n), .cells (empt n), .cells (empt n)] = s' ∧ v = v' := by
  refine aCalls_weak ?_
  refine aCalls_of Try.func8 rfl (by decide) (by simp [Try.ntmps8]) false ?_
  have hm : n ≤ maxLen := by unfold maxLen; omega
  have hm2 : (n : Int) * 24 ≤ 140737488355328 := by omega
  have hm3 : (n : Int) ≤ 140737488355328 := by omega
  have hid : ∀ l, (s ++ l)[s.length]? = l[0]? := fun l => get_app0 s l
  have hset : ∀ l o, (s ++ l).set s.length o = s ++ l.set 0 o := fun l o => set_app0 s l o
  simp [Try.f8]
  refine aW_draw (.qs [0, 2, 4] (.or (.or (.w 1 [] (.or (.w 3 [] (.w 5 [] (.qs [6] (.w 7 [] .nil)))) (.w 5 [] (.w 3 [] (.qs [6] (.w 7 [] .nil)))))) (.w 3 [] (.or (.w 1 [] (.w 5 [] (.qs [6] (.w 7 [] .nil)))) (.w 5 [] (.w 1 [] (.qs [6] (.w 7 [] .nil))))))) (.w 5 [] (.or (.w 1 [] (.w 3 [] (.qs [6] (.w 7 [] .nil)))) (.w 3 [] (.w 1 [] (.qs [6] (.w 7 [] .nil)))))))) mixed (by kernel_rfl) (by kernel_rfl) ?_
  simp [hm, hm2, hm3, h0, sizes28, place28_4, place28_8, place28_9, hid, hset]
  have fin : ∀ q r p, fresh s q r p → ∃ y, Weak (.agg [.int .i64 0, .nils, .nils, .nils, .ref 1 q 0 n true, .nils, .nils, .nils, .ref 1 r 0 n true, .ref 1 p 0 n true]) y ∧ ∃ x,
      WeakS (s ++ [.cells [.int .i64 0, .nils, .nils, .nils, .ref 1 q 0 n true, .nils, .nils, .nils, .ref 1 r 0 n true, .ref 1 p 0 n true], .cells (zeros [.nils] n), .cells (zeros [.nils] n), .cells (zeros [.nils] n)]) x ∧
      ∃ q r p, fresh s q r p ∧ y = .agg (core q r p n) ∧ s ++ [.cells (core q r p n), .cells (empt n), .cells (empt n), .cells (empt n)] = x := by
    intro q r p h
    refine ⟨_, Weak.refl _, _, ?_, q, r, p, h, rfl, rfl⟩
    refine WeakS.app s (by simp) ?_
    intro i o o' h1 h2
    match i with
    | 0 => simp at h1 h2; subst h1; subst h2; exact WeakO.refl _
    | 1 => simp at h1 h2; subst h1; subst h2; exact empt_weak n
    | 2 => simp at h1 h2; subst h1; subst h2; exact empt_weak n
    | 3 => simp at h1 h2; subst h1; subst h2; exact empt_weak n
    | i + 4 => simp at h1
  have fr : ∀ i j k : Nat, (0 < i ∧ i < 4 ∧ 0 < j ∧ j < 4 ∧ 0 < k ∧ k < 4 ∧ i ≠ j ∧ i ≠ k ∧ j ≠ k) → fresh s (s.length + i) (s.length + j) (s.length + k) := by
    intro i j k h; unfold fresh; omega
  exact ⟨⟨⟨fin _ _ _ (fr 1 2 3 (by omega)), fin _ _ _ (fr 1 3 2 (by omega))⟩, fin _ _ _ (fr 2 1 3 (by omega)), fin _ _ _ (fr 3 1 2 (by omega))⟩, fin _ _ _ (fr 2 3 1 (by omega)), fin _ _ _ (fr 3 2 1 (by omega))⟩
end Go.Hb
