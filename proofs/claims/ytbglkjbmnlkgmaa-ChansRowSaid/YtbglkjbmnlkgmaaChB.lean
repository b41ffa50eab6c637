import Derived.Test.YtbglkjbmnlkgmaaChA
namespace Go.Hb
open Go Go.Proofs Go.RowKit

def idx (p : Int → Bool) (l : List Int) : Int := match l.findIdx? p with | some i => (i : Int) | none => -1

theorem idx_none {p : Int → Bool} {l : List Int} (h : ∀ j (hj : j < l.length), p l[j] = false) : idx p l = -1 := by
  unfold idx
  rw [List.findIdx?_eq_none_iff.2]
  intro x hx
  obtain ⟨j, hj, rfl⟩ := List.getElem_of_mem hx
  exact h j hj
theorem idx_at {p : Int → Bool} {l : List Int} {k : Nat} (hk : k < l.length) (hp : p l[k] = true) (h : ∀ j (hj : j < k), p l[j] = false) : idx p l = k := by
  unfold idx
  rw [List.findIdx?_eq_some_iff_getElem.2 ⟨hk, hp, fun j hj => by simpa using h j hj⟩]

theorem wrap_succ {k n : Nat} (h : k < n) (hn : n ≤ 1000000) : IntKind.i64.wrap ((k : Int) + 1) = ((k + 1 : Nat) : Int) := by
  rw [IntWalk.i64_in _ ⟨by omega, by omega⟩]; omega

set_option maxHeartbeats 1000000 in
theorem indexFunc_c {id g : Nat} {full : Bool} {fa ca : List LV} {p : Int → Bool} {l : List Int} {s : List AObj} {v : List Nat} (hb : l.length ≤ 1000000) (hs : s[id]? = some (.cells (l.map (.int .i64))))
    (hF : ∀ (x : Int) (v : List Nat), aCalls Try.prog g (fa ++ [.int .i64 x] ++ ca) s v fun r s' v' => r = .bool (p x) ∧ s = s' ∧ v = v') :
    aCalls Try.prog 46 [.ref 1 id 0 l.length full, .fn (.func g) fa ca] s v fun r s' v' => r = .int .i64 (idx p l) ∧ s = s' ∧ v = v' := by
  refine aCalls_of Try.func46 rfl (by decide) (by simp [Try.ntmps46]) false ?_
  simp [Try.f46]
  refine aW_loopC false (fun st => ∃ k : Nat, k ≤ l.length ∧ (∀ j (hj : j < l.length), j < k → p l[j] = false) ∧ st.t 8 = .int .i64 k ∧ st.t 7 = .int .i64 l.length ∧ st.t 0 = .ref 1 id 0 l.length full ∧ st.t 1 = .fn (.func g) fa ca ∧ s = st.s ∧ v = st.v) (fun st => l.length - numOf (st.t 8)) ?_ ?_
  · exact ⟨0, by simp [upd_apply]⟩
  · rintro t s1 v1 ⟨k, hk, hno, h8, h7, h0, h1, rfl, rfl⟩
    simp only at h8 h7 h0 h1
    by_cases hlt : k < l.length
    · have hlt' : (k : Int) < (l.length : Int) := by omega
      have hw := wrap_succ hlt hb
      simp [h8, h7, h0, h1, hlt, hs]
      refine aCalls_mono (by simpa using hF l[k] v) ?_
      rintro _ _ _ ⟨rfl, rfl, rfl⟩
      cases hp : p l[k] with
      | true => simp; exact (idx_at hlt hp fun j hj => hno j (by omega) hj).symm
      | false =>
        simp only [hw, numOf, Int.toNat_natCast, Bool.false_eq_true, if_false]
        refine ⟨⟨k + 1, by omega, fun j hj hj2 => ?_, rfl, trivial, trivial⟩, by omega⟩
        by_cases e : j = k
        · subst e; exact hp
        · exact hno j hj (by omega)
    · have hlt' : ¬ (k : Int) < (l.length : Int) := by omega
      simp [h8, h7, hlt]
      exact (idx_none fun j hj => hno j hj (by omega)).symm

theorem idx_spec {p : Int → Bool} {l : List Int} (h : idx p l ≠ -1) : ∃ m, ∃ hm : m < l.length, idx p l = m ∧ p l[m] = true ∧ ∀ j (hj : j < m), p l[j] = false := by
  unfold idx at h ⊢
  cases hf : l.findIdx? p with
  | none => rw [hf] at h; exact absurd rfl h
  | some m =>
    obtain ⟨h1, h2, h3⟩ := List.findIdx?_eq_some_iff_getElem.1 hf
    exact ⟨m, h1, rfl, h2, fun j hj => by simpa using h3 j hj⟩

theorem setAt_take : ∀ (xs cs : List LV) (off : Nat), (setAt cs off xs).take off = cs.take off := by
  intro xs
  induction xs with
  | nil => intro cs off; rfl
  | cons x xs ih =>
    intro cs off
    have := ih (cs.set off x) (off + 1)
    have h2 := congrArg (List.take off) this
    rw [List.take_take, List.take_take, Nat.min_eq_left (by omega)] at h2
    simp only [setAt]
    rw [h2, List.take_set_of_le (by omega)]

/-- What a filter in its place has come to. -/
theorem filter_take_succ {p : Int → Bool} {l : List Int} {k : Nat} (hk : k < l.length) : (l.take (k + 1)).filter p = (l.take k).filter p ++ (if p l[k] = true then [l[k]] else []) := by
  rw [List.take_succ_eq_append_getElem hk, List.filter_append]
  cases h : p l[k] <;> simp [h]

theorem filter_all {p : Int → Bool} {l : List Int} {m : Nat} (hm : m ≤ l.length) (h : ∀ j (hj : j < m), p l[j] = true) : (l.take m).filter p = l.take m := by
  rw [List.filter_eq_self]
  intro x hx
  obtain ⟨j, hj, rfl⟩ := List.getElem_of_mem hx
  simp at hj
  rw [List.getElem_take]; exact h j (by omega)

set_option maxHeartbeats 2000000 in
theorem deleteFunc_c {id g : Nat} {full : Bool} {fa ca : List LV} {p : Int → Bool} {l : List Int} {s : List AObj} {v : List Nat} (hb : l.length ≤ 1000000) (hne : l ≠ []) (hs : s[id]? = some (.cells (l.map (.int .i64))))
    (hF : ∀ (x : Int) (v : List Nat) (cs : List LV), aCalls Try.prog g (fa ++ [.int .i64 x] ++ ca) (s.set id (.cells cs)) v fun r s' v' => r = .bool (p x) ∧ s.set id (.cells cs) = s' ∧ v = v') :
    aCalls Try.prog 36 [.ref 1 id 0 l.length full, .fn (.func g) fa ca] s v fun r s' v' => r = encI (l.filter fun x => !p x) ∧ s.set id (.cells []) = s' ∧ v = v' := by
  have hid : id < s.length := (List.getElem?_eq_some_iff.1 hs).1
  have hself : s.set id (.cells (l.map (.int .i64))) = s := by
    apply List.ext_getElem?
    intro i
    by_cases e : id = i
    · subst e; rw [hs]; simp [hid]
    · rw [List.getElem?_set_ne e]
  refine aCalls_freeze (aCalls_of Try.func36 rfl (by decide) (by simp [Try.ntmps36]) false ?_)
  simp [Try.f36]
  refine aCalls_mono (indexFunc_c hb hs fun x v => by have := hF x v (l.map (.int .i64)); rw [hself] at this; exact this) ?_
  rintro _ _ _ ⟨rfl, rfl, rfl⟩
  simp
  by_cases hi : idx p l = -1
  · rw [if_pos hi]
    have hall : (l.filter fun x => !p x) = l := by
      rw [List.filter_eq_self]
      intro x hx
      obtain ⟨j, hj, rfl⟩ := List.getElem_of_mem hx
      cases hpj : p l[j] with
      | false => rfl
      | true =>
        exfalso
        unfold idx at hi
        cases hf : l.findIdx? p with
        | none => have := List.findIdx?_eq_none_iff.1 hf l[j] hx; rw [hpj] at this; cases this
        | some m => rw [hf] at hi; simp at hi
    refine ⟨1, id, 0, l.length, by cases full <;> simp, l.map (.int .i64), hs, by simp, by simpa using hne, ?_, rfl⟩
    rw [hall]; simp [encI]
    exact List.take_of_length_le (by simp)
  · rw [if_neg hi]
    obtain ⟨m, hm, hidx, hpm, hno⟩ := idx_spec hi
    have hw := wrap_succ hm hb
    refine aW_loopC false (fun st => ∃ (k i : Nat) (cs : List Int), i < k ∧ k ≤ l.length ∧ cs.length = l.length ∧ cs.take i = (l.take k).filter (fun x => !p x) ∧ (∀ j, k ≤ j → cs[j]? = l[j]?) ∧
      st.t 6 = .int .i64 k ∧ st.t 5 = .int .i64 i ∧ st.t 0 = .ref 1 id 0 l.length full ∧ st.t 1 = .fn (.func g) fa ca ∧ s.set id (.cells (cs.map (.int .i64))) = st.s ∧ v = st.v) (fun st => l.length - numOf (st.t 6)) ?_ ?_
    · refine ⟨m + 1, m, l, by omega, by omega, rfl, ?_, fun _ _ => rfl, ?_⟩
      · rw [filter_take_succ hm, filter_all (by omega) fun j hj => by simp [hno j hj]]
        simp [hpm]
      · simp [upd_apply, hidx, hw, hself]
    · rintro t s1 v1 ⟨k, i, cs, hik, hk, hlen, htk, hsame, h6, h5, h0, h1, rfl, rfl⟩
      simp only at h6 h5 h0 h1
      by_cases hlt : k < l.length
      · have hw := wrap_succ hlt hb
        have hck : cs[k]? = some l[k] := by rw [hsame k (Nat.le_refl _)]; simp [hlt]
        have hgk : (cs.map (LV.int .i64))[k]? = some (.int .i64 l[k]) := by simp [hck]
        have hi2 : i < l.length := by omega
        have hwi := wrap_succ hi2 hb
        simp [h6, h0, h1, hlt, hid, hck]
        refine aCalls_mono (by simpa using hF l[k] v (cs.map (.int .i64))) ?_
        rintro _ _ _ ⟨rfl, rfl, rfl⟩
        cases hp : p l[k] with
        | true =>
          simp [h5, hw, numOf]
          refine ⟨⟨k + 1, i, by omega, by omega, cs, hlen, ?_, fun j hj => hsame j (by omega), rfl, rfl, rfl⟩, by omega⟩
          rw [htk, filter_take_succ hlt]; simp [hp]
        | false =>
          have hio : i + 1 ≤ cs.length := by omega
          simp [h5, hw, hwi, numOf, hi2, hid, hio]
          refine ⟨⟨k + 1, i + 1, by omega, by omega, cs.set i l[k], by simpa using hlen, ?_, fun j hj => ?_, rfl, rfl, by simp⟩, by omega⟩
          · rw [List.take_succ_eq_append_getElem (by simp; omega), List.take_set_of_le (Nat.le_refl _), htk, filter_take_succ hlt]; simp [hp]
          · rw [List.getElem?_set_ne (by omega)]; exact hsame j (by omega)
      · have hke : k = l.length := by omega
        subst hke
        have hi2 : i < l.length := hik
        have h9 : l.length ≤ cs.length := by omega
        have h10 : l.length - i ≠ 0 := by omega
        simp [h6, h5, h0, hid, hi2, h9, h10, Nat.le_of_lt hi2]
        refine ⟨1, id, 0, i, ?_, setAt (List.map (LV.int .i64) cs) i (zeros [.int .i64 0] (l.length - i)), by simp [hid], ?_, ?_, ?_, by simp⟩
        · have hne2 : ¬ i = l.length := by omega
          cases full <;> simp [hne2]
        · rw [setAt_length]; simp; omega
        · intro e
          have := congrArg List.length e
          rw [setAt_length, List.length_map, List.length_nil] at this; omega
        · simp only [List.drop_zero, Nat.mul_one]
          rw [setAt_take, ← List.map_take, htk, List.take_length]
          unfold encI
          congr 1
          rw [← List.take_length (l := l), ← htk]; simp; omega
end Go.Hb
