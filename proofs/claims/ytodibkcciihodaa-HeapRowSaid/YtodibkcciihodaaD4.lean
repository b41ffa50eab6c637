/-
  A layer for reasoning about the program's calls, and contracts of its functions (D4). CONDITIONS: none; each theorem bears its own.
-/
import Derived.Test.YtodibkcciihodaaD3
set_option linter.unusedVariables false
set_option linter.unusedSimpArgs false
section
namespace Go.Hb

/-! ### the order of timers -/
theorem lt2_iff (a b : Tm) : lt2 a b = true ↔ a.1 < b.1 ∨ (a.1 = b.1 ∧ a.2 < b.2) := by simp [lt2]
def le2 (a b : Tm) : Prop := ¬ lt2 b a = true
theorem le2_iff (a b : Tm) : le2 a b ↔ a.1 < b.1 ∨ (a.1 = b.1 ∧ a.2 ≤ b.2) := by unfold le2; rw [lt2_iff]; omega
theorem le2_trans {a b c : Tm} (h : le2 a b) (k : le2 b c) : le2 a c := by rw [le2_iff] at *; omega
theorem le2_of {a b : Tm} (h : lt2 a b = true) : le2 a b := by rw [lt2_iff] at h; rw [le2_iff]; omega
theorem le2_anti {a b : Tm} (h : le2 a b) (k : le2 b a) : a = b := by rw [le2_iff] at *; exact Prod.ext (by omega) (by omega)

def Ok1 (ts : List Tm) (j : Nat) : Prop := 0 < j → j < ts.length → le2 (tg ts ((j - 1) / 2)) (tg ts j)
def Heap (ts : List Tm) : Prop := ∀ j, Ok1 ts j
/-- All is well, but at i. -/
structure But (ts : List Tm) (i : Nat) : Prop where
  a : ∀ j, j ≠ i → (j - 1) / 2 ≠ i ∨ j = 0 → Ok1 ts j
  b : ∀ j, 0 < j → j < ts.length → (j - 1) / 2 = i → 0 < i → le2 (tg ts ((i - 1) / 2)) (tg ts j)

theorem up_but {ts : List Tm} {i : Nat} (hi : i < ts.length) (h : But ts i) : But (upL ts i).1 (upL ts i).2.1 ∧ Ok1 (upL ts i).1 (upL ts i).2.1 := by
  induction i using Nat.strongRecOn generalizing ts with
  | _ i ih =>
    rw [upL]
    split
    · rename_i h0; subst h0; exact ⟨h, fun h => absurd h (Nat.lt_irrefl _)⟩
    · rename_i h0
      split
      · rename_i hlt
        obtain ⟨p, hp⟩ : ∃ p, p = (i - 1) / 2 := ⟨_, rfl⟩
        rw [← hp] at hlt ⊢
        have hpl : p < ts.length := by omega
        have g := fun j => swp_get hi hpl j
        refine ih p (by omega) (by rw [swp_len]; exact hpl) ⟨fun j hj hj2 => ?_, fun j h1 h2 h3 h4 => ?_⟩
        · intro h1 h2
          rw [swp_len] at h2
          have hj3 : (j - 1) / 2 ≠ p := by rcases hj2 with h | h; exact h; omega
          rw [g, g]
          rw [if_neg hj3, if_neg hj, if_neg (show j ≠ i by intro e; subst e; omega)]
          by_cases e : (j - 1) / 2 = i
          · rw [if_pos e]; have := h.b j h1 h2 e (by omega); rwa [← hp] at this
          · rw [if_neg e]; exact h.a j (by intro e; subst e; omega) (.inl e) h1 h2
        · rw [swp_len] at h2
          rw [g, g]
          have n1 : (p - 1) / 2 ≠ p := by omega
          have n2 : (p - 1) / 2 ≠ i := by omega
          have n3 : j ≠ p := by omega
          rw [if_neg n1, if_neg n2, if_neg n3]
          have hpp := h.a p (by omega) (.inl (by omega)) h4 hpl
          by_cases e : j = i
          · rw [if_pos e]; exact hpp
          · rw [if_neg e]
            have := h.a j e (.inl (by omega)) h1 h2
            rw [h3] at this
            exact le2_trans hpp this
      · rename_i hlt
        exact ⟨h, fun _ _ => hlt⟩

theorem down_heap {ts : List Tm} {i : Nat} (h : But ts i) (hc : Ok1 ts i) : Heap (downL ts i).1 := by
  induction hn : ts.length - i using Nat.strongRecOn generalizing ts i with
  | _ n ih =>
    rw [downL]
    have kg := kid_gt ts i
    split
    · rename_i h1
      obtain ⟨k, hk⟩ : ∃ k, k = kid ts i := ⟨_, rfl⟩
      have kl := kid_lt h1
      have hsib : ∀ j, 0 < j → j < ts.length → (j - 1) / 2 = i → le2 (tg ts k) (tg ts j) := by
        intro j h2 h3 h4
        rw [hk]; unfold kid
        have : j = 2 * i + 1 ∨ j = 2 * i + 2 := by omega
        split
        · rename_i hh
          rcases this with e | e
          · subst e; exact le2_of hh.2
          · subst e; rw [le2_iff]; omega
        · rename_i hh
          rcases this with e | e
          · subst e; rw [le2_iff]; omega
          · subst e
            intro hx; exact hh ⟨h3, hx⟩
      rw [← hk] at kg kl ⊢
      have il : i < ts.length := by omega
      split
      · rename_i hlt
        have g := fun j => swp_get il kl j
        have kp : (k - 1) / 2 = i := by omega
        refine ih _ (by subst hn; rw [swp_len]; omega) (i := k) ⟨fun j hj hj2 => ?_, fun j h2 h3 h4 h5 => ?_⟩ ?_ rfl
        · intro h2 h3
          rw [swp_len] at h3
          have hj3 : (j - 1) / 2 ≠ k := by rcases hj2 with h | h; exact h; omega
          rw [g, g, if_neg hj3, if_neg hj]
          by_cases e : j = i
          · subst e
            rw [if_neg (by omega), if_pos rfl]
            exact h.b k (by omega) kl kp h2
          · rw [if_neg e]
            by_cases e2 : (j - 1) / 2 = i
            · rw [if_pos e2]; exact hsib j h2 h3 e2
            · rw [if_neg e2]; exact h.a j e (.inl e2) h2 h3
        · rw [swp_len] at h3
          rw [kp, g, g, if_neg (by omega), if_pos rfl, if_neg (by omega), if_neg (by omega)]
          have := h.a j (by omega) (.inl (by omega)) h2 h3
          rwa [h4] at this
        · intro h2 h3
          rw [kp, g, g, if_neg (by omega), if_pos rfl, if_pos rfl]
          exact le2_of hlt
      · rename_i hlt
        intro j h2 h3
        by_cases e : j = i
        · subst e; exact hc h2 h3
        · by_cases e2 : (j - 1) / 2 = i
          · rw [e2]; exact le2_trans hlt (hsib j h2 h3 e2)
          · exact h.a j e (.inl e2) h2 h3
    · rename_i h1
      intro j h2 h3
      by_cases e : j = i
      · subst e; exact hc h2 h3
      · exact h.a j e (.inl (by simp only at h3; omega)) h2 h3

theorem fix_heap {ts : List Tm} {i : Nat} (hi : i < ts.length) (h : But ts i) : Heap (fixL ts i) :=
  down_heap (up_but hi h).1 (up_but hi h).2

/-! ### what lies in it -/
theorem swp_perm {ts : List Tm} {i k : Nat} (hi : i < ts.length) (hk : k < ts.length) : (swp ts i k).Perm ts := by
  unfold swp
  rw [List.getD_eq_getElem?_getD, List.getD_eq_getElem?_getD, List.getElem?_eq_getElem hi, List.getElem?_eq_getElem hk]
  exact List.set_set_perm hi hk
theorem up_perm {ts : List Tm} {i : Nat} (hi : i < ts.length) : (upL ts i).1.Perm ts := by
  induction i using Nat.strongRecOn generalizing ts with
  | _ i ih =>
    rw [upL]
    split
    · exact .refl _
    · split
      · have hp : (i - 1) / 2 < ts.length := by omega
        exact (ih _ (by omega) (by rw [swp_len]; exact hp)).trans (swp_perm hi hp)
      · exact .refl _
theorem down_perm {ts : List Tm} {i : Nat} : (downL ts i).1.Perm ts := by
  induction hn : ts.length - i using Nat.strongRecOn generalizing ts i with
  | _ n ih =>
    rw [downL]
    have kg := kid_gt ts i
    split
    · rename_i h1
      have kl := kid_lt h1
      split
      · exact (ih _ (by subst hn; rw [swp_len]; omega) rfl).trans (swp_perm (by omega) kl)
      · exact .refl _
    · exact .refl _
theorem fix_perm {ts : List Tm} {i : Nat} (hi : i < ts.length) : (fixL ts i).Perm ts := down_perm.trans (up_perm hi)

/-! ### how often -/
def dg (n : Nat) : Nat := if n = 0 then 0 else dg (n / 2) + 1
termination_by n
decreasing_by omega
theorem dg_mono : ∀ {a b : Nat}, a ≤ b → dg a ≤ dg b := by
  intro a b
  induction b using Nat.strongRecOn generalizing a with
  | _ b ih =>
    intro h
    rw [dg, dg.eq_def b]
    split
    · omega
    · rw [if_neg (by omega)]
      have := ih (b / 2) (by omega) (a := a / 2) (by omega)
      omega
theorem dg_two (n : Nat) (h : 0 < n) : dg (2 * n) = dg n + 1 := by rw [dg, if_neg (by omega)]; rw [show 2 * n / 2 = n by omega]
theorem up_steps (ts : List Tm) (i : Nat) : (upL ts i).2.2 ≤ dg i := by
  induction i using Nat.strongRecOn generalizing ts with
  | _ i ih =>
    rw [upL]
    split
    · exact Nat.zero_le _
    · rename_i h0
      have e : dg i = dg (i / 2) + 1 := by rw [dg, if_neg h0]
      split
      · have h1 := ih ((i - 1) / 2) (by omega) (swp ts i ((i - 1) / 2))
        have h2 := dg_mono (a := (i - 1) / 2) (b := i / 2) (by omega)
        simp only; omega
      · simp only; omega
theorem down_steps (ts : List Tm) (i : Nat) : (downL ts i).2.2 + 2 * dg (i + 1) ≤ 2 * dg (max ts.length (i + 1)) := by
  induction hn : ts.length - i using Nat.strongRecOn generalizing ts i with
  | _ n ih =>
    rw [downL]
    have kg := kid_gt ts i
    have hk : kidN ts i ≤ 2 := by unfold kidN; split <;> omega
    split
    · rename_i h1
      have h2 : dg (i + 1) + 1 ≤ dg (max ts.length (i + 1)) := by rw [← dg_two _ (by omega)]; exact dg_mono (by omega)
      split
      · have h3 := ih _ (by subst hn; rw [swp_len]; omega) (swp ts i (kid ts i)) (kid ts i) rfl
        rw [swp_len] at h3
        have h4 : dg (i + 1) + 1 ≤ dg (kid ts i + 1) := by rw [← dg_two _ (by omega)]; exact dg_mono (by omega)
        have h5 := kid_lt h1
        have h6 : max ts.length (kid ts i + 1) = ts.length := by omega
        have h7 : max ts.length (i + 1) = ts.length := by omega
        rw [h6] at h3
        rw [h7] at h2 ⊢
        simp only; omega
      · simp only; omega
    · have := dg_mono (a := i + 1) (b := max ts.length (i + 1)) (by omega)
      simp only; omega
theorem fix_steps {ts : List Tm} {i : Nat} (hi : i < ts.length) : fixN ts i ≤ 3 * dg ts.length := by
  unfold fixN
  have h1 := up_steps ts i
  have h2 := down_steps (upL ts i).1 (upL ts i).2.1
  have h3 := up_at hi
  have h4 := dg_mono (a := i) (b := ts.length) (by omega)
  rw [up_len] at h2
  have h5 : max ts.length ((upL ts i).2.1 + 1) = ts.length := by omega
  rw [h5] at h2
  omega
end Go.Hb
end

section
namespace Go.Hb

theorem lt2_trans {a b c : Tm} (h : lt2 a b = true) (k : lt2 b c = true) : lt2 a c = true := by rw [lt2_iff] at *; omega
theorem lt2_of {a b : Tm} (h : le2 a b) (hk : a.2 ≠ b.2) : lt2 a b = true := by rw [le2_iff] at h; rw [lt2_iff]; omega

/-- The document's row without a key, and with one more. -/
def refCancel (R : List Tm) (key : Int) : List Tm := R.filter fun t => decide (t.2 ≠ key)
def posK (R : List Tm) (x : Tm) : Nat → Nat | 0 => 0 | k + 1 => if lt2 x (tg R k) = true then posK R x k else k + 1
def refSet (R : List Tm) (key at_ : Int) : List Tm := (refCancel R key).take (posK (refCancel R key) (at_, key) (refCancel R key).length) ++ ((at_, key) :: (refCancel R key).drop (posK (refCancel R key) (at_, key) (refCancel R key).length))

structure Good (ts R : List Tm) : Prop where
  heap : Heap ts
  perm : ts.Perm R
  sorted : R.Pairwise fun a b => lt2 a b = true
  keys : (R.map Prod.snd).Nodup

theorem Good.nil : Good [] [] := ⟨fun j h1 h2 => absurd h2 (by simp), .refl _, .nil, .nil⟩
theorem Good.len {ts R : List Tm} (h : Good ts R) : ts.length = R.length := h.perm.length_eq
theorem Good.keys' {ts R : List Tm} (h : Good ts R) : (ts.map Prod.snd).Nodup := (h.perm.map Prod.snd).nodup_iff.2 h.keys

theorem had_eq {ts R : List Tm} (h : ts.Perm R) (key : Int) : (find ts key).isSome = decide ((refCancel R key).length < R.length) := by
  rw [Bool.eq_iff_iff, decide_eq_true_eq]
  unfold find refCancel
  rw [List.findIdx?_isSome, List.length_filter_lt_length_iff_exists, List.any_eq_true]
  constructor
  · rintro ⟨x, hx, e⟩; exact ⟨x, h.mem_iff.1 hx, by simpa using e⟩
  · rintro ⟨x, hx, e⟩; exact ⟨x, h.mem_iff.2 hx, by simpa using e⟩

/-- The list parted at the key. -/
theorem find_split {ts : List Tm} {key : Int} {i : Nat} (hf : find ts key = some i) (hn : (ts.map Prod.snd).Nodup) : ∃ a b, ts = a ++ tg ts i :: b ∧ a.length = i ∧ refCancel ts key = a ++ b := by
  obtain ⟨hi, hk⟩ := find_some hf
  have e : ts = ts.take i ++ tg ts i :: ts.drop (i + 1) := by rw [tg_eq hi]; simp
  refine ⟨ts.take i, ts.drop (i + 1), e, by simp; omega, ?_⟩
  have hn2 := hn
  rw [e] at hn2
  simp only [List.map_append, List.map_cons] at hn2
  rw [List.nodup_append] at hn2
  obtain ⟨_, h2, h3⟩ := hn2
  rw [List.nodup_cons] at h2
  unfold refCancel
  conv => lhs; rw [e]
  rw [List.filter_append, List.filter_cons, if_neg (by simp [hk])]
  rw [List.filter_eq_self.2, List.filter_eq_self.2]
  · intro t ht
    have : t.2 ≠ key := fun e => h2.1 (by rw [hk, ← e]; exact List.mem_map_of_mem ht)
    simpa using this
  · intro t ht
    have : t.2 ≠ key := fun e => h3 t.2 (List.mem_map_of_mem ht) (tg ts i).2 (List.mem_cons_self) (e.trans hk.symm)
    simpa using this
theorem find_none_filter {ts : List Tm} {key : Int} (hf : find ts key = none) : refCancel ts key = ts := by
  unfold refCancel
  rw [List.filter_eq_self]
  intro t ht
  have := List.findIdx?_eq_none_iff.1 hf t ht
  simpa using this

theorem But.of {ts ts' : List Tm} {i : Nat} (h : Heap ts) (hg : ∀ j, j < ts'.length → j ≠ i → tg ts' j = tg ts j ∧ j < ts.length) : But ts' i := by
  constructor
  · intro j hj hj2 h1 h2
    obtain ⟨e1, h3⟩ := hg j h2 hj
    have hp : (j - 1) / 2 ≠ i := by rcases hj2 with h | h; exact h; omega
    obtain ⟨e2, h4⟩ := hg ((j - 1) / 2) (by omega) hp
    rw [e1, e2]; exact h j h1 h3
  · intro j h1 h2 h3 h4
    obtain ⟨e1, h5⟩ := hg j h2 (by omega)
    obtain ⟨e2, h6⟩ := hg ((i - 1) / 2) (by omega) (by omega)
    rw [e1, e2]
    have k1 := h j h1 h5
    rw [h3] at k1
    exact le2_trans (h i h4 (by omega)) k1

theorem setP_perm {ts : List Tm} (hn : (ts.map Prod.snd).Nodup) (key at_ : Int) : (setP ts key at_).1.Perm ((at_, key) :: refCancel ts key) := by
  unfold setP
  cases hf : find ts key with
  | none =>
    rw [find_none_filter hf]
    exact List.perm_append_singleton _ _
  | some i =>
    obtain ⟨a, b, e, hl, hc⟩ := find_split hf hn
    simp only
    rw [hc]
    have : ts.set i (at_, key) = a ++ (at_, key) :: b := by
      rw [e, ← hl, List.set_append_right _ _ (Nat.le_refl _), Nat.sub_self]; rfl
    rw [this]
    exact List.perm_middle
theorem setP_lt (ts : List Tm) (key at_ : Int) : (setP ts key at_).2 < (setP ts key at_).1.length := by
  unfold setP
  cases hf : find ts key with
  | none => simp
  | some i => simpa using (find_some hf).1
theorem setP_but {ts : List Tm} (h : Heap ts) (key at_ : Int) : But (setP ts key at_).1 (setP ts key at_).2 := by
  unfold setP
  cases hf : find ts key with
  | none =>
    refine But.of h fun j hj hji => ?_
    have hj2 : j < ts.length + 1 := by simpa using hj
    have hj3 : j < ts.length := by simp only at hji; omega
    exact ⟨by unfold tg; rw [List.getD_eq_getElem?_getD, List.getElem?_append_left hj3, List.getD_eq_getElem?_getD], hj3⟩
  | some i =>
    refine But.of h fun j hj hji => ⟨?_, by simpa using hj⟩
    unfold tg
    rw [List.getD_eq_getElem?_getD, List.getElem?_set_ne (Ne.symm hji), List.getD_eq_getElem?_getD]

theorem refCancel_perm {ts R : List Tm} (h : ts.Perm R) (key : Int) : (refCancel ts key).Perm (refCancel R key) := h.filter _
theorem refCancel_keys {R : List Tm} (h : (R.map Prod.snd).Nodup) (key : Int) : ((refCancel R key).map Prod.snd).Nodup := List.Nodup.sublist (List.filter_sublist.map _) h
theorem refCancel_not (R : List Tm) (key : Int) : ∀ t ∈ refCancel R key, t.2 ≠ key := fun t ht => by
  have := (List.mem_filter.1 ht).2
  simpa using this

theorem posK_spec (R : List Tm) (x : Tm) : ∀ k, k ≤ R.length → posK R x k ≤ k ∧ (∀ j, posK R x k ≤ j → j < k → lt2 x (tg R j) = true) ∧ (posK R x k = 0 ∨ ¬ lt2 x (tg R (posK R x k - 1)) = true)
  | 0, _ => ⟨Nat.le_refl _, fun j h1 h2 => absurd h2 (by omega), .inl rfl⟩
  | k + 1, hk => by
    obtain ⟨h1, h2, h3⟩ := posK_spec R x k (by omega)
    rw [posK]
    split
    · rename_i hlt
      exact ⟨by omega, fun j h4 h5 => by
        by_cases e : j = k
        · subst e; exact hlt
        · exact h2 j h4 (by omega), h3⟩
    · rename_i hlt
      exact ⟨Nat.le_refl _, fun j h4 h5 => absurd h5 (by omega), .inr hlt⟩

theorem refSet_perm (R : List Tm) (key at_ : Int) : (refSet R key at_).Perm ((at_, key) :: refCancel R key) := by
  unfold refSet
  refine List.perm_middle.trans ?_
  rw [List.take_append_drop]
theorem refSet_sorted {R : List Tm} (h : R.Pairwise fun a b => lt2 a b = true) (key at_ : Int) : (refSet R key at_).Pairwise fun a b => lt2 a b = true := by
  have hs : (refCancel R key).Pairwise fun a b => lt2 a b = true := h.filter _
  have hk := refCancel_not R key
  unfold refSet
  generalize refCancel R key = L at hs hk
  obtain ⟨p1, p2, p3⟩ := posK_spec L (at_, key) L.length (Nat.le_refl _)
  generalize posK L (at_, key) L.length = k at p1 p2 p3
  have hs2 := hs
  rw [← List.take_append_drop k L, List.pairwise_append] at hs2
  obtain ⟨s1, s2, s3⟩ := hs2
  have d1 : ∀ b ∈ L.drop k, lt2 (at_, key) b = true := fun b hb => by
    obtain ⟨j, hj, e⟩ := List.getElem_of_mem hb
    rw [List.getElem_drop] at e
    rw [List.length_drop] at hj
    have := p2 (k + j) (by omega) (by omega)
    rwa [tg_eq (by omega), e] at this
  have d2 : ∀ a ∈ L.take k, lt2 a (at_, key) = true := fun a ha => by
    obtain ⟨j, hj, e⟩ := List.getElem_of_mem ha
    rw [List.getElem_take] at e
    rw [List.length_take] at hj
    rcases p3 with h0 | h0
    · omega
    · have hl : le2 (tg L (k - 1)) (at_, key) := h0
      have hm : tg L (k - 1) ∈ L := by rw [tg_eq (by omega)]; exact List.getElem_mem _
      have hlt := lt2_of hl (hk _ hm)
      by_cases ej : j = k - 1
      · subst ej; rw [tg_eq (by omega), e] at hlt; exact hlt
      · have := List.pairwise_iff_getElem.1 hs j (k - 1) (by omega) (by omega) (by omega)
        rw [e] at this
        rw [tg_eq (by omega)] at hlt
        exact lt2_trans this hlt
  rw [List.pairwise_append]
  refine ⟨s1, List.pairwise_cons.2 ⟨d1, s2⟩, fun a ha b hb => ?_⟩
  rcases List.mem_cons.1 hb with rfl | hb
  · exact d2 a ha
  · exact s3 a ha b hb
theorem refSet_keys {R : List Tm} (h : (R.map Prod.snd).Nodup) (key at_ : Int) : ((refSet R key at_).map Prod.snd).Nodup := by
  rw [((refSet_perm R key at_).map Prod.snd).nodup_iff, List.map_cons, List.nodup_cons]
  refine ⟨?_, refCancel_keys h key⟩
  rw [List.mem_map]
  rintro ⟨t, ht, e⟩
  exact refCancel_not R key t ht e

theorem set_good {ts R : List Tm} (h : Good ts R) (key at_ : Int) : Good (setL ts key at_) (refSet R key at_) := by
  refine ⟨fix_heap (setP_lt _ _ _) (setP_but h.heap key at_), ?_, refSet_sorted h.sorted key at_, refSet_keys h.keys key at_⟩
  exact (fix_perm (setP_lt _ _ _)).trans ((setP_perm h.keys' key at_).trans (((refCancel_perm h.perm key).cons _).trans (refSet_perm R key at_).symm))

theorem cut_get {ts : List Tm} {i j : Nat} (hi : i < ts.length) (hj : j < ts.length - 1) (hji : j ≠ i) : tg (cutL ts i) j = tg ts j := by
  unfold cutL
  rw [take_get _ hj, swp_get hi (by omega), if_neg (by omega), if_neg hji]
theorem cut_perm {ts : List Tm} {key : Int} {i : Nat} (hf : find ts key = some i) (hn : (ts.map Prod.snd).Nodup) : (cutL ts i).Perm (refCancel ts key) := by
  obtain ⟨a, b, e, hl, hc⟩ := find_split hf hn
  obtain ⟨hi, hk⟩ := find_some hf
  rw [hc]
  have hl2 : ts.length - 1 < (swp ts i (ts.length - 1)).length := by rw [swp_len]; omega
  have h1 : swp ts i (ts.length - 1) = cutL ts i ++ [tg ts i] := by
    have hd : (swp ts i (ts.length - 1)).drop (ts.length - 1) = [tg ts i] := by
      rw [List.drop_eq_getElem_cons hl2, List.drop_eq_nil_of_le (by rw [swp_len]; omega), ← tg_eq hl2, swp_get hi (by omega), if_pos rfl]
    rw [← hd]; unfold cutL; rw [List.take_append_drop]
  have h2 : (cutL ts i ++ [tg ts i]).Perm ((a ++ b) ++ [tg ts i]) := by
    rw [← h1]
    refine (swp_perm hi (by omega)).trans ?_
    have : (a ++ tg ts i :: b).Perm ((a ++ b) ++ [tg ts i]) := List.perm_middle.trans (List.perm_append_singleton _ _).symm
    rwa [← e] at this
  exact (List.perm_append_right_iff _).1 h2
theorem cancel_good {ts R : List Tm} (h : Good ts R) (key : Int) : Good (cancelL ts key) (refCancel R key) := by
  refine ⟨?_, ?_, h.sorted.filter _, refCancel_keys h.keys key⟩
  · unfold cancelL
    cases hf : find ts key with
    | none => exact h.heap
    | some i =>
      obtain ⟨hi, hk⟩ := find_some hf
      simp only
      have hb : But (cutL ts i) i := But.of h.heap fun j hj hji => by
        rw [cut_len] at hj
        exact ⟨cut_get hi hj hji, by omega⟩
      split
      · rename_i hlt; exact fix_heap (by rw [cut_len]; exact hlt) hb
      · rename_i hlt
        intro j h1 h2
        have h3 := h2
        rw [cut_len] at h3
        exact hb.a j (by omega) (.inl (by omega)) h1 h2
  · refine List.Perm.trans ?_ (refCancel_perm h.perm key)
    unfold cancelL
    cases hf : find ts key with
    | none => rw [find_none_filter hf]
    | some i =>
      simp only
      have := cut_perm hf h.keys'
      split
      · rename_i hlt; exact (fix_perm (by rw [cut_len]; exact hlt)).trans this
      · exact this
theorem setN_le (ts : List Tm) (key at_ : Int) : setN ts key at_ ≤ 3 * dg (ts.length + 1) := by
  unfold setN
  refine Nat.le_trans (fix_steps (setP_lt _ _ _)) ?_
  have : (setP ts key at_).1.length ≤ ts.length + 1 := by unfold setP; split <;> simp
  have := dg_mono this
  omega
theorem cancelN_le (ts : List Tm) (key : Int) : cancelN ts key ≤ 3 * dg ts.length := by
  unfold cancelN
  split
  · omega
  · split
    · rename_i hlt
      refine Nat.le_trans (fix_steps (by rw [cut_len]; exact hlt)) ?_
      rw [cut_len]
      have := dg_mono (a := ts.length - 1) (b := ts.length) (by omega)
      omega
    · omega

/-- The first one. -/
theorem heap_first {ts : List Tm} (h : Heap ts) : ∀ j, j < ts.length → le2 (tg ts 0) (tg ts j) := by
  intro j
  induction j using Nat.strongRecOn with
  | _ j ih =>
    intro hj
    by_cases h0 : j = 0
    · subst h0; rw [le2_iff]; omega
    · exact le2_trans (ih ((j - 1) / 2) (by omega) (by omega)) (h j (by omega) hj)
theorem Good.first {ts R : List Tm} (h : Good ts R) {t : Tm} {R' : List Tm} (e : R = t :: R') : ∃ ts', ts = t :: ts' := by
  subst e
  cases ts with
  | nil => have := h.perm.length_eq; simp at this
  | cons u us =>
    refine ⟨us, ?_⟩
    have h1 : u ∈ t :: R' := h.perm.mem_iff.1 List.mem_cons_self
    have h2 : t ∈ u :: us := h.perm.mem_iff.2 List.mem_cons_self
    have h3 : le2 u t := by
      obtain ⟨j, hj, e⟩ := List.getElem_of_mem h2
      have := heap_first h.heap j hj
      rw [tg_eq hj, e] at this
      exact this
    have h4 : le2 t u := by
      rcases List.mem_cons.1 h1 with e | e
      · subst e; rw [le2_iff]; omega
      · exact le2_of ((List.pairwise_cons.1 h.sorted).1 u e)
    rw [le2_anti h3 h4]
end Go.Hb
end

