/-
  A layer for reasoning about the program's calls, and contracts of its functions (C1). CONDITIONS: none; each theorem bears its own.
-/
import Derived.Test.YtgaaocndjaoihaaTy
import Derived.Test.YtgaaocndjaoihaaL5
set_option linter.unusedVariables false
set_option linter.unusedSimpArgs false
section
namespace Go.Hb
open Go Go.Proofs Go.RowKit

theorem ofNat_toNat' (k : Nat) : ((k : Int)).toNat = k := Int.toNat_natCast k

theorem push_c {id off : Nat} {cs : List LV} {l xs : List Int} {s : List AObj} {v : List Nat} (hs : s[id]? = some (.cells cs)) (hc : cs[off]? = some (encI l)) (hb : l.length + xs.length ≤ 1000000) (h1 : xs ≠ []):
    aCalls Try.prog 33 [.ptr id off, encI xs] s v fun x s' v' => x = .tup [] ∧ s.set id (.cells (cs.set off (encI (l ++ xs)))) = s' ∧ v <+: v' := by
  refine aCalls_weak (aCalls_of Try.func33 rfl (by decide) (by simp [Try.ntmps33]) false ?_)
  have h0 : xs.length ≠ 0 := by simpa using h1
  have hm : l.length + xs.length ≤ maxLen := by unfold maxLen; omega
  have hm2 : (l.length + xs.length) * 8 ≤ 140737488355328 := by omega
  have hoff : off + 1 ≤ cs.length := (List.getElem?_eq_some_iff.1 hc).1
  have htk : List.take l.length (List.map (LV.int .i64) l) = List.map (LV.int .i64) l := List.take_of_length_le (by simp)
  simp [Try.f33, encI] at hc ⊢
  simp [hs, hc, h0, hm, hm2, hoff, htk]
  exact ⟨Weak.refl _, WeakS.set (Weaks.set (Weaks.refl _) (Weak.imm _ _ _ _))⟩

theorem shift_c {id off n : Nat} {cs : List LV} {l : List Int} {s : List AObj} {v : List Nat} (hs : s[id]? = some (.cells cs)) (hc : cs[off]? = some (encI l)) (hn : n ≤ l.length) :
    aCalls Try.prog 44 [.ptr id off, .int .i64 n] s v fun x s' v' => x = encI (l.take n) ∧ s.set id (.cells (cs.set off (encI (l.drop n)))) = s' ∧ v = v' := by
  refine aCalls_weak (aCalls_of Try.func44 rfl (by decide) (by simp [Try.ntmps44]) false ?_)
  have hoff : off + 1 ≤ cs.length := (List.getElem?_eq_some_iff.1 hc).1
  have hn' : (n : Int) ≤ (l.length : Int) := by omega
  have hmin : min n l.length = n := by omega
  have htk : List.take (l.length - n) (List.drop n (List.map (LV.int .i64) l)) = List.map (LV.int .i64) (l.drop n) := by
    rw [← List.map_drop]; exact List.take_of_length_le (by simp)
  simp [Try.f44, encI] at hc ⊢
  simp [hs, hc, hoff, hn, hn', hmin, htk]
  exact ⟨by rw [← List.map_take]; exact Weak.imm _ _ _ _, WeakS.set (Weaks.set (Weaks.refl _) (Weak.imm _ _ _ _))⟩

theorem is_c {i0 : Nat} {x t : Int} {s : List AObj} {v : List Nat} (hs : s[i0]? = some (.cells [.int .i64 t])) :
    aCalls Try.prog 38 [.int .i64 x, .ptr i0 0] s v fun r s' v' => r = .bool (decide (x = t)) ∧ s = s' ∧ v = v' := by
  refine aCalls_of Try.func38 rfl (by decide) (by simp [Try.ntmps38]) false ?_
  simp [Try.f38, hs]

theorem clone_nil {s : List AObj} {v : List Nat} : aCalls Try.prog 37 [encI []] s v fun r s' v' => r = encI [] ∧ s = s' ∧ v = v' := by
  refine aCalls_weak (aCalls_emp (aCalls_of Try.func37 rfl (by decide) (by simp [Try.ntmps37]) false ?_) (aCalls_of Try.func37 rfl (by decide) (by simp [Try.ntmps37]) false ?_))
  · simp [Try.f37, encI]
    exact ⟨Weak.nils _ _ (.inl rfl), WeakS.refl _⟩
  · simp [Try.f37, encI, maxLen]
    exact ⟨Weak.imm _ _ _ _, WeakS.refl _⟩

theorem clone_own {l : List Int} {s : List AObj} {v : List Nat} (hl : l ≠ []) (hb : l.length ≤ 1000000) : aCalls Try.prog 37 [encI l] s v fun r s' v' => r = .ref 1 s.length 0 l.length false ∧ s ++ [.cells (l.map (.int .i64))] = s' ∧ v = v' := by
  refine aCalls_of Try.func37 rfl (by decide) (by simp [Try.ntmps37]) true ?_
  have hm : l.length ≤ maxLen := by unfold maxLen; omega
  have hm2 : l.length * 8 ≤ 140737488355328 := by omega
  simp [Try.f37, encI, hl, hm, hm2]
end Go.Hb
end

section
namespace Go.Hb
open Go Go.Proofs Go.RowKit

def idx (p : Int → Bool) (l : List Int) : Int := match l.findIdx? p with | some i => (i : Int) | none => -1

theorem idx_none {p : Int → Bool} {l : List Int} (h : ∀ j (hj : j < l.length), p l[j] = false) : idx p l = -1 := by
  unfold idx
  rw [List.findIdx?_eq_none_iff.2]
  intro x hx
  obtain ⟨j, hj, rfl⟩ := List.getElem_of_mem hx
  exact h j hj
theorem idx_at {p : Int → Bool} {l : List Int} {k : Nat} (hk : k < l.length) (hp : p l[k] = true) (h : ∀ j (hj : j < k), p l[j] = false) : idx p l = k := by
  unfold idx
  rw [List.findIdx?_eq_some_iff_getElem.2 ⟨hk, hp, fun j hj => by simpa using h j hj⟩]

theorem wrap_succ {k n : Nat} (h : k < n) (hn : n ≤ 1000000) : IntKind.i64.wrap ((k : Int) + 1) = ((k + 1 : Nat) : Int) := by
  rw [IntWalk.i64_in _ ⟨by omega, by omega⟩]; omega

set_option maxHeartbeats 1000000 in
theorem indexFunc_c {id g : Nat} {full : Bool} {fa ca : List LV} {p : Int → Bool} {l : List Int} {s : List AObj} {v : List Nat} (hb : l.length ≤ 1000000) (hs : s[id]? = some (.cells (l.map (.int .i64))))
    (hF : ∀ (x : Int) (v : List Nat), aCalls Try.prog g (fa ++ [.int .i64 x] ++ ca) s v fun r s' v' => r = .bool (p x) ∧ s = s' ∧ v = v') :
    aCalls Try.prog 46 [.ref 1 id 0 l.length full, .fn (.func g) fa ca] s v fun r s' v' => r = .int .i64 (idx p l) ∧ s = s' ∧ v = v' := by
  refine aCalls_of Try.func46 rfl (by decide) (by simp [Try.ntmps46]) false ?_
  simp [Try.f46]
  refine aW_loopC false (fun st => ∃ k : Nat, k ≤ l.length ∧ (∀ j (hj : j < l.length), j < k → p l[j] = false) ∧ st.t 8 = .int .i64 k ∧ st.t 7 = .int .i64 l.length ∧ st.t 0 = .ref 1 id 0 l.length full ∧ st.t 1 = .fn (.func g) fa ca ∧ s = st.s ∧ v = st.v) (fun st => l.length - numOf (st.t 8)) ?_ ?_
  · exact ⟨0, by simp [upd_apply]⟩
  · rintro t s1 v1 ⟨k, hk, hno, h8, h7, h0, h1, rfl, rfl⟩
    simp only at h8 h7 h0 h1
    by_cases hlt : k < l.length
    · have hlt' : (k : Int) < (l.length : Int) := by omega
      have hw := wrap_succ hlt hb
      simp [h8, h7, h0, h1, hlt, hs]
      refine aCalls_mono (by simpa using hF l[k] v) ?_
      rintro _ _ _ ⟨rfl, rfl, rfl⟩
      cases hp : p l[k] with
      | true => simp; exact (idx_at hlt hp fun j hj => hno j (by omega) hj).symm
      | false =>
        simp only [hw, numOf, Int.toNat_natCast, Bool.false_eq_true, if_false]
        refine ⟨⟨k + 1, by omega, fun j hj hj2 => ?_, rfl, trivial, trivial⟩, by omega⟩
        by_cases e : j = k
        · subst e; exact hp
        · exact hno j hj (by omega)
    · have hlt' : ¬ (k : Int) < (l.length : Int) := by omega
      simp [h8, h7, hlt]
      exact (idx_none fun j hj => hno j hj (by omega)).symm

theorem idx_spec {p : Int → Bool} {l : List Int} (h : idx p l ≠ -1) : ∃ m, ∃ hm : m < l.length, idx p l = m ∧ p l[m] = true ∧ ∀ j (hj : j < m), p l[j] = false := by
  unfold idx at h ⊢
  cases hf : l.findIdx? p with
  | none => rw [hf] at h; exact absurd rfl h
  | some m =>
    obtain ⟨h1, h2, h3⟩ := List.findIdx?_eq_some_iff_getElem.1 hf
    exact ⟨m, h1, rfl, h2, fun j hj => by simpa using h3 j hj⟩

theorem setAt_take : ∀ (xs cs : List LV) (off : Nat), (setAt cs off xs).take off = cs.take off := by
  intro xs
  induction xs with
  | nil => intro cs off; rfl
  | cons x xs ih =>
    intro cs off
    have := ih (cs.set off x) (off + 1)
    have h2 := congrArg (List.take off) this
    rw [List.take_take, List.take_take, Nat.min_eq_left (by omega)] at h2
    simp only [setAt]
    rw [h2, List.take_set_of_le (by omega)]

/-- What a filter in its place has come to. -/
theorem filter_take_succ {p : Int → Bool} {l : List Int} {k : Nat} (hk : k < l.length) : (l.take (k + 1)).filter p = (l.take k).filter p ++ (if p l[k] = true then [l[k]] else []) := by
  rw [List.take_succ_eq_append_getElem hk, List.filter_append]
  cases h : p l[k] <;> simp [h]

theorem filter_all {p : Int → Bool} {l : List Int} {m : Nat} (hm : m ≤ l.length) (h : ∀ j (hj : j < m), p l[j] = true) : (l.take m).filter p = l.take m := by
  rw [List.filter_eq_self]
  intro x hx
  obtain ⟨j, hj, rfl⟩ := List.getElem_of_mem hx
  simp at hj
  rw [List.getElem_take]; exact h j (by omega)

set_option maxHeartbeats 2000000 in
theorem deleteFunc_c {id g : Nat} {full : Bool} {fa ca : List LV} {p : Int → Bool} {l : List Int} {s : List AObj} {v : List Nat} (hb : l.length ≤ 1000000) (hne : l ≠ []) (hs : s[id]? = some (.cells (l.map (.int .i64))))
    (hF : ∀ (x : Int) (v : List Nat) (cs : List LV), aCalls Try.prog g (fa ++ [.int .i64 x] ++ ca) (s.set id (.cells cs)) v fun r s' v' => r = .bool (p x) ∧ s.set id (.cells cs) = s' ∧ v = v') :
    aCalls Try.prog 36 [.ref 1 id 0 l.length full, .fn (.func g) fa ca] s v fun r s' v' => r = encI (l.filter fun x => !p x) ∧ s.set id (.cells []) = s' ∧ v = v' := by
  have hid : id < s.length := (List.getElem?_eq_some_iff.1 hs).1
  have hself : s.set id (.cells (l.map (.int .i64))) = s := by
    apply List.ext_getElem?
    intro i
    by_cases e : id = i
    · subst e; rw [hs]; simp [hid]
    · rw [List.getElem?_set_ne e]
  refine aCalls_freeze (aCalls_of Try.func36 rfl (by decide) (by simp [Try.ntmps36]) false ?_)
  simp [Try.f36]
  refine aCalls_mono (indexFunc_c hb hs fun x v => by have := hF x v (l.map (.int .i64)); rw [hself] at this; exact this) ?_
  rintro _ _ _ ⟨rfl, rfl, rfl⟩
  simp
  by_cases hi : idx p l = -1
  · rw [if_pos hi]
    have hall : (l.filter fun x => !p x) = l := by
      rw [List.filter_eq_self]
      intro x hx
      obtain ⟨j, hj, rfl⟩ := List.getElem_of_mem hx
      cases hpj : p l[j] with
      | false => rfl
      | true =>
        exfalso
        unfold idx at hi
        cases hf : l.findIdx? p with
        | none => have := List.findIdx?_eq_none_iff.1 hf l[j] hx; rw [hpj] at this; cases this
        | some m => rw [hf] at hi; simp at hi
    refine ⟨1, id, 0, l.length, by cases full <;> simp, l.map (.int .i64), hs, by simp, by simpa using hne, ?_, rfl⟩
    rw [hall]; simp [encI]
    exact List.take_of_length_le (by simp)
  · rw [if_neg hi]
    obtain ⟨m, hm, hidx, hpm, hno⟩ := idx_spec hi
    have hw := wrap_succ hm hb
    refine aW_loopC false (fun st => ∃ (k i : Nat) (cs : List Int), i < k ∧ k ≤ l.length ∧ cs.length = l.length ∧ cs.take i = (l.take k).filter (fun x => !p x) ∧ (∀ j, k ≤ j → cs[j]? = l[j]?) ∧
      st.t 6 = .int .i64 k ∧ st.t 5 = .int .i64 i ∧ st.t 0 = .ref 1 id 0 l.length full ∧ st.t 1 = .fn (.func g) fa ca ∧ s.set id (.cells (cs.map (.int .i64))) = st.s ∧ v = st.v) (fun st => l.length - numOf (st.t 6)) ?_ ?_
    · refine ⟨m + 1, m, l, by omega, by omega, rfl, ?_, fun _ _ => rfl, ?_⟩
      · rw [filter_take_succ hm, filter_all (by omega) fun j hj => by simp [hno j hj]]
        simp [hpm]
      · simp [upd_apply, hidx, hw, hself]
    · rintro t s1 v1 ⟨k, i, cs, hik, hk, hlen, htk, hsame, h6, h5, h0, h1, rfl, rfl⟩
      simp only at h6 h5 h0 h1
      by_cases hlt : k < l.length
      · have hw := wrap_succ hlt hb
        have hck : cs[k]? = some l[k] := by rw [hsame k (Nat.le_refl _)]; simp [hlt]
        have hgk : (cs.map (LV.int .i64))[k]? = some (.int .i64 l[k]) := by simp [hck]
        have hi2 : i < l.length := by omega
        have hwi := wrap_succ hi2 hb
        simp [h6, h0, h1, hlt, hid, hck]
        refine aCalls_mono (by simpa using hF l[k] v (cs.map (.int .i64))) ?_
        rintro _ _ _ ⟨rfl, rfl, rfl⟩
        cases hp : p l[k] with
        | true =>
          simp [h5, hw, numOf]
          refine ⟨⟨k + 1, i, by omega, by omega, cs, hlen, ?_, fun j hj => hsame j (by omega), rfl, rfl, rfl⟩, by omega⟩
          rw [htk, filter_take_succ hlt]; simp [hp]
        | false =>
          have hio : i + 1 ≤ cs.length := by omega
          simp [h5, hw, hwi, numOf, hi2, hid, hio]
          refine ⟨⟨k + 1, i + 1, by omega, by omega, cs.set i l[k], by simpa using hlen, ?_, fun j hj => ?_, rfl, rfl, by simp⟩, by omega⟩
          · rw [List.take_succ_eq_append_getElem (by simp; omega), List.take_set_of_le (Nat.le_refl _), htk, filter_take_succ hlt]; simp [hp]
          · rw [List.getElem?_set_ne (by omega)]; exact hsame j (by omega)
      · have hke : k = l.length := by omega
        subst hke
        have hi2 : i < l.length := hik
        have h9 : l.length ≤ cs.length := by omega
        have h10 : l.length - i ≠ 0 := by omega
        simp [h6, h5, h0, hid, hi2, h9, h10, Nat.le_of_lt hi2]
        refine ⟨1, id, 0, i, ?_, setAt (List.map (LV.int .i64) cs) i (zeros [.int .i64 0] (l.length - i)), by simp [hid], ?_, ?_, ?_, by simp⟩
        · have hne2 : ¬ i = l.length := by omega
          cases full <;> simp [hne2]
        · rw [setAt_length]; simp; omega
        · intro e
          have := congrArg List.length e
          rw [setAt_length, List.length_map, List.length_nil] at this; omega
        · simp only [List.drop_zero, Nat.mul_one]
          rw [setAt_take, ← List.map_take, htk, List.take_length]
          unfold encI
          congr 1
          rw [← List.take_length (l := l), ← htk]; simp; omega
end Go.Hb
end

section
namespace Go.Hb
open Go Go.Proofs Go.RowKit

/-- A state of n channels, its rows at q, r and p. -/
def core (q r p n : Nat) : List LV := [.int .i64 0, .nils, .nils, .nils, .ref 1 q 0 n true, .nils, .nils, .nils, .ref 1 r 0 n true, .ref 1 p 0 n true]

set_option maxHeartbeats 2000000 in
theorem waits1_c {l i1 i2 id q r p n : Nat} {t : Int} {R : List (List Int)} {J : Nat → List AObj → List Nat → Prop} {s : List AObj} {v : List Nat} (hn : n ≤ 1000000) (hR : R.length = n) (hb : ∀ x ∈ R, x.length ≤ 1000000) (h0 : J 0 s v)
    (hJ : ∀ k s v, J k s v → s[i1]? = some (.cells [.ptr id 0]) ∧ s[i2]? = some (.cells [.int .i64 t]) ∧ s[id]? = some (.cells (core q r p n)) ∧
      ∃ cs, s[p]? = some (.cells cs) ∧ cs.length = n ∧ ∀ (hk : k < R.length), cs[k]? = some (encI R[k]))
    (hN : ∀ k s v, J k s v → ∀ (hk : k < R.length), t ∉ R[k] → J (k + 1) s v)
    (hY : ∀ k s v, J k s v → ∀ (hk : k < R.length), t ∈ R[k] → aRound Try.prog l [.int .i64 k] s v fun x s' v' => x = .bool true ∧ J (k + 1) s' v') :
    aCalls Try.prog 45 [.yld l, .ptr i1 0, .ptr i2 0] s v fun _ s' v' => J n s' v' := by
  refine aCalls_of Try.func45 rfl (by decide) (by simp [Try.ntmps45]) false ?_
  obtain ⟨a1, a2, a3, cs, a4, a5, a6⟩ := hJ 0 s v h0
  simp [Try.f45]
  refine aW_scopeC false ?_
  simp [a1, a3, core]
  refine aW_loopC false (fun st => ∃ k : Nat, k ≤ n ∧ st.t 13 = .int .i64 k ∧ st.t 12 = .int .i64 n ∧ st.t 11 = .ref 1 p 0 n true ∧ st.t 0 = .yld l ∧ st.t 2 = .ptr i2 0 ∧ J k st.s st.v) (fun st => n - numOf (st.t 13)) ?_ ?_
  · exact ⟨0, by simp [upd_apply, h0]⟩
  rintro t1 s1 v1 ⟨k, hk, h13, h12, h11, hy, h2, hJk⟩
  simp only at h13 h12 h11 hy h2 hJk
  by_cases hlt : k < n
  · have hlt' : (k : Int) < (n : Int) := by omega
    have hw := wrap_succ hlt hn
    have hkR : k < R.length := by omega
    obtain ⟨b1, b2, b3, cs, b4, b5, b6⟩ := hJ k s1 v1 hJk
    have b6 := b6 hkR
    have hck : k < cs.length := by omega
    rw [List.getElem?_eq_getElem hck, Option.some_inj] at b6
    have hbk := hb _ (List.getElem_mem hkR)
    have hN' := fun h => hN k s1 v1 hJk hkR h
    have hY' := fun h => hY k s1 v1 hJk hkR h
    generalize R[k] = L at b6 hbk hN' hY'
    simp [h13, h12, h11, hy, h2, hlt, b4, b5, b6, encI]
    refine aW_loopC false (fun st => ∃ j : Nat, j ≤ L.length ∧ (∀ i (hi : i < L.length), i < j → L[i] ≠ t) ∧ st.t 20 = .int .i64 j ∧ st.t 19 = .int .i64 L.length ∧ st.t 18 = encI L ∧ st.t 4 = .int .i64 k ∧ st.t 13 = .int .i64 k ∧ st.t 12 = .int .i64 n ∧ st.t 11 = .ref 1 p 0 n true ∧ st.t 0 = .yld l ∧ st.t 2 = .ptr i2 0 ∧ s1 = st.s ∧ v1 = st.v) (fun st => L.length - numOf (st.t 20)) ?_ ?_
    · exact ⟨0, by simp [upd_apply, h13, h12, h11, hy, h2, encI]⟩
    rintro t2 s2 v2 ⟨j, hj, hno, h20, h19, h18, h4, h13, h12, h11, hy, h2, rfl, rfl⟩
    simp only at h20 h19 h18 h4 h13 h12 h11 hy h2
    by_cases hjl : j < L.length
    · have hwj := wrap_succ hjl hbk
      have hjl' : (j : Int) < (L.length : Int) := by omega
      have hje : (L.map (LV.int .i64))[j]? = some (.int .i64 L[j]) := by simp [hjl]
      by_cases he : L[j] = t
      · have hmem : t ∈ L := by rw [← he]; exact List.getElem_mem hjl
        simp [h20, h19, h18, h4, h13, h12, h11, hy, h2, hjl, encI, b2, he]
        refine aRound_mono (hY' hmem) ?_
        rintro _ s' v' ⟨rfl, hJ1⟩
        simp [h13, h12, h11, hy, h2, hw, numOf]
        exact ⟨⟨k + 1, by omega, rfl, hJ1⟩, by omega⟩
      · simp [h20, h19, h18, h4, h13, h12, h11, hy, h2, hjl, encI, b2, he, hwj, numOf]
        exact ⟨⟨j + 1, by omega, fun i hi hi2 => by by_cases e : i = j
                                                    · subst e; exact he
                                                    · exact hno i hi (by omega), rfl⟩, by omega⟩
    · simp [h20, h19, h18, h4, h13, h12, h11, hy, h2, hjl, hw, numOf]
      refine ⟨⟨k + 1, by omega, rfl, hN' fun hm => ?_⟩, by omega⟩
      obtain ⟨i, hi, e⟩ := List.getElem_of_mem hm
      exact hno i hi (by omega) e
  · have hlt' : ¬ (k : Int) < (n : Int) := by omega
    have : k = n := by omega
    subst this
    simp [h13, h12]
    exact hJk
end Go.Hb
end

section
namespace Go.Hb
open Go Go.Proofs Go.RowKit

theorem get_at {s l : List AObj} {m : Nat} (h : s.length = m) (k : Nat) : (s ++ l)[m + k]? = l[k]? := by subst h; exact get_app s l k
theorem get_at0 {s l : List AObj} {m : Nat} (h : s.length = m) : (s ++ l)[m]? = l[0]? := get_at h 0
theorem set_at {s l : List AObj} {m : Nat} (h : s.length = m) (k : Nat) (o : AObj) : (s ++ l).set (m + k) o = s ++ l.set k o := by subst h; exact set_app s l k o
theorem set_at0 {s l : List AObj} {m : Nat} (h : s.length = m) (o : AObj) : (s ++ l).set m o = s ++ l.set 0 o := set_at h 0 o

theorem waits_c {id : Nat} {t : Int} {s : List AObj} {v : List Nat} :
    aCalls Try.prog 35 [.ptr id 0, .int .i64 t] s v fun r s' v' => r = .fn (.func 45) [] [.ptr s.length 0, .ptr (s.length + 1) 0] ∧ s ++ [.cells [.ptr id 0], .cells [.int .i64 t]] = s' ∧ v = v' := by
  refine aCalls_of Try.func35 rfl (by decide) (by simp [Try.ntmps35]) false ?_
  simp [Try.f35]

def del (t : Int) (l : List Int) : List Int := l.filter fun x => !decide (x = t)
theorem del_id {t : Int} {l : List Int} (h : t ∉ l) : del t l = l := by
  unfold del; rw [List.filter_eq_self]; intro x hx; simp; rintro rfl; exact h hx

/-- The rows of which the first k were passed. -/
def gone (t : Int) (k : Nat) (R : List (List Int)) : List (List Int) := (R.take k).map (del t) ++ R.drop k
theorem gone_length (t : Int) (k : Nat) (R : List (List Int)) : (gone t k R).length = R.length := by unfold gone; simp; omega
theorem gone_at {t : Int} {k : Nat} {R : List (List Int)} (hk : k < R.length) : (gone t k R)[k]? = some R[k] := by
  unfold gone; rw [List.getElem?_append_right (by simp; omega)]; simp; simp [Nat.min_eq_left (Nat.le_of_lt hk), hk]
theorem gone_succ {t : Int} {k : Nat} {R : List (List Int)} (hk : k < R.length) : gone t (k + 1) R = (gone t k R).set k (del t R[k]) := by
  unfold gone
  rw [List.set_append_right _ _ (by simp; omega)]
  rw [List.take_succ_eq_append_getElem hk, List.map_append, List.append_assoc]
  congr 1
  simp only [List.length_map, List.length_take, Nat.min_eq_left (Nat.le_of_lt hk), Nat.sub_self]
  rw [← List.getElem_cons_drop (h := hk)]
  rfl
theorem gone_all {t : Int} {R : List (List Int)} {n : Nat} (h : R.length ≤ n) : gone t n R = R.map (del t) := by
  unfold gone; simp [List.take_of_length_le h, List.drop_of_length_le h]

theorem any_take_succ {f : List Int → Bool} {R : List (List Int)} {k : Nat} (hk : k < R.length) : (R.take (k + 1)).any f = ((R.take k).any f || f R[k]) := by
  rw [List.take_succ_eq_append_getElem hk, List.any_append]; simp only [List.any_cons, List.any_nil, Bool.or_false]

theorem ints_under (n : Nat) (l : List Int) : undersB n (l.map (LV.int .i64)) = true := by
  induction l with
  | nil => rfl
  | cons x l ih => simp [undersB, LV.under, ih]
theorem encI_under (n : Nat) (l : List Int) : (encI l).under n = true := by simp only [encI, LV.under]; exact ints_under n l
theorem rows_under (n : Nat) (R : List (List Int)) : (AObj.cells (R.map encI)).under n := by
  unfold AObj.under
  induction R with
  | nil => rfl
  | cons x l ih => simp only [List.map_cons, undersB, encI_under, ih, Bool.and_self]
theorem set_under {s : List AObj} {p n : Nat} {o' : AObj} (h : o'.under n) : ∀ (i : Nat) (o : AObj), (s.set p o')[i]? = some o → s[i]? = some o ∨ o.under n := by
  intro i o ho
  by_cases e : p = i
  · subst e
    have hl := (List.getElem?_eq_some_iff.1 ho).1
    rw [List.length_set] at hl
    rw [List.getElem?_set_self hl] at ho
    cases ho; exact .inr h
  · rw [List.getElem?_set_ne e] at ho; exact .inl ho

set_option maxHeartbeats 2000000 in
theorem cancel_c {id q r p n : Nat} {t : Int} {R : List (List Int)} {s : List AObj} {v : List Nat} (hn : n ≤ 1000000) (hR : R.length = n) (hb : ∀ x ∈ R, x.length ≤ 1000000)
    (h1 : s[id]? = some (.cells (core q r p n))) (h2 : s[p]? = some (.cells (R.map encI))) (hne : id ≠ p) :
    aCalls Try.prog 20 [.ptr id 0, .int .i64 t] s v fun x s' v' => x = .bool (R.any fun l => l.contains t) ∧ s.set p (.cells (R.map fun l => encI (del t l))) = s' ∧ v = v' := by
  have hid : id < s.length := (List.getElem?_eq_some_iff.1 h1).1
  have hp : p < s.length := (List.getElem?_eq_some_iff.1 h2).1
  refine aCalls_drop ?_
  refine aCalls_of Try.func20 rfl (by decide) (by simp [Try.ntmps20]) false ?_
  simp [Try.f20]
  refine aCalls_mono (by simpa using waits_c) ?_
  rintro _ _ _ ⟨rfl, rfl, rfl⟩
  simp
  refine aW_range (g := 45) (fa := []) (ca := [.ptr (s.length + 3) 0, .ptr (s.length + 4) 0]) (by simp) rfl ?_
  simp
  generalize hlo : ALoop.mk LoopState.ready none _ _ _ _ _ = lo
  let J : Nat → List AObj → List Nat → Prop := fun k s' v' => ∃ K, s.set p (.cells ((gone t k R).map encI)) ++ ([.cells [.ptr id 0], .cells [.int .i64 t], .cells [.bool ((R.take k).any fun l => l.contains t)], .cells [.ptr id 0], .cells [.int .i64 t], .loop lo] ++ K) = s' ∧ v = v'
  refine aCalls_mono (waits1_c (J := J) (R := R) (t := t) (id := id) (q := q) (r := r) (p := p) (n := n) hn hR hb ?_ ?_ ?_ ?_) ?_
  · refine ⟨[], ?_, rfl⟩
    have : gone t 0 R = R := by simp [gone]
    rw [this, List.append_nil]
    congr 1
    apply List.ext_getElem?
    intro i
    by_cases e : p = i
    · subst e; rw [h2]; simp [hp]
    · rw [List.getElem?_set_ne e]
  · rintro k _ _ ⟨K, rfl, rfl⟩
    have hl : (s.set p (.cells ((gone t k R).map encI))).length = s.length := by simp
    refine ⟨?_, ?_, ?_, (gone t k R).map encI, ?_, by simp [gone_length, hR], fun hk => ?_⟩
    · rw [get_at hl]; rfl
    · rw [get_at hl]; rfl
    · rw [get_old (by simpa using hid), List.getElem?_set_ne (by omega), h1]
    · rw [get_old (by simpa using hp)]; simp [hp]
    · simp [gone_at hk]
  · rintro k _ _ ⟨K, rfl, rfl⟩ hk hnot
    refine ⟨K, ?_, rfl⟩
    rw [gone_succ hk, del_id hnot, any_take_succ hk]
    have : (gone t k R).set k R[k] = gone t k R := by
      apply List.ext_getElem?
      intro i
      by_cases e : k = i
      · subst e; rw [gone_at hk]; simp [gone_length, hk]
      · rw [List.getElem?_set_ne e]
    rw [this]
    simp [hnot]
  · rintro k _ _ ⟨K, rfl, rfl⟩ hk hmem
    have hl : (s.set p (.cells ((gone t k R).map encI))).length = s.length := by simp
    refine aRound_of (lp := lo) (by rw [get_at hl]; rfl) (by subst hlo; rfl) (by subst hlo; simp) ?_
    have ha := congrArg ALoop.assign hlo.symm
    have hbo := congrArg ALoop.body hlo.symm
    have ht := congrArg ALoop.tmps hlo.symm
    have hpa := congrArg ALoop.params hlo.symm
    have hsz := congrArg ALoop.size hlo.symm
    have hst := congrArg ALoop.state hlo.symm
    have hpe := congrArg ALoop.pending hlo.symm
    simp only at ha hbo ht hpa hsz hst hpe
    rw [ha, hbo, hsz, hpa, ht]
    refine aC_sound (own := false) _ _ _ ?_
    simp [setParams, get_at hl, set_at hl, hst, hpe]
    refine aC_sound (own := false) _ _ _ ?_
    simp
    refine aW_draw (.qs [0, 1, 2, 3, 4, 5, 6, 7, 8, 9, 10, 11, 13] (.w 12 [3, 0] (.w 14 [3, 0] (.qs [15] (.w 16 [] .nil))))) mixed (by kernel_rfl) (by kernel_rfl) ?_
    clear hbo ha ht
    generalize hs1 : (s.set p _ ++ _) = s1
    have g1 : s1[id]? = some (.cells (core q r p n)) := by rw [← hs1, get_old (by simpa using hid), List.getElem?_set_ne (by omega), h1]
    have g2 : s1[p]? = some (.cells ((gone t k R).map encI)) := by rw [← hs1, get_old (by simpa using hp)]; simp [hp]
    have g3 : s1[s.length]? = some (.cells [.ptr id 0]) := by rw [← hs1, get_at0 hl]; rfl
    have g4 : s1[s.length + 1]? = some (.cells [.int .i64 t]) := by rw [← hs1, get_at hl]; rfl
    have hml : s.length + 5 < s1.length := by rw [← hs1]; simp
    have hkl : k < (gone t k R).length := by rw [gone_length]; exact hk
    have hgk : (gone t k R)[k] = R[k] := by have := gone_at (t := t) hk; rw [List.getElem?_eq_getElem hkl] at this; exact Option.some.inj this
    have hne0 : R[k] ≠ [] := by intro e; rw [e] at hmem; cases hmem
    have hbk := hb _ (List.getElem_mem hk)
    have hkn : k < n := by omega
    have hid1 : id < s1.length := by omega
    have hp1 : p < s1.length := by omega
    have hm0 : s.length < s1.length := by omega
    have hm1 : s.length + 1 < s1.length := by omega
    have hm2 : s.length + 2 < s1.length := by omega
    have g5 : s1[s.length + 2]? = some (.cells [.bool ((R.take k).any fun l => l.contains t)]) := by rw [← hs1, get_at hl]; simp
    have hkl1 : k + 1 ≤ (gone t k R).length := hkl
    simp [g1, g2, g3, core, hkn, hkl, hgk]
    refine aCalls_mono (clone_own hne0 hbk) ?_
    rintro _ _ _ ⟨rfl, rfl, rfl⟩
    simp only [get_old hid1, get_old hm0, g1, g3, core]
    simp
    refine aCalls_mono (deleteFunc_c (id := s1.length) (p := fun x => decide (x = t)) (l := R[k]) hbk hne0 (by simp) (fun x v cs => ?_)) ?_
    · have := is_c (i0 := s.length + 1) (x := x) (t := t) (s := (s1 ++ [AObj.cells (R[k].map (LV.int .i64))]).set s1.length (.cells cs)) (v := v) (by rw [set_app0, get_old hm1, g4])
      simpa using this
    rintro _ _ _ ⟨rfl, rfl, rfl⟩
    simp only [set_app0, get_old hid1, get_old hm0, get_old hp1, g1, g3, g2, core]
    have hpm : p ≠ s.length + 2 := by omega
    have hpm5 : p ≠ s.length + 5 := by omega
    simp [hkl1, encI, List.getElem?_set_ne hpm, get_old hm2, g5]
    have g6 : ∃ lp, s1[s.length + 5]? = some (.loop lp) ∧ ({ lp with state := .ready, pending := none } : ALoop) = lo := by
      refine ⟨_, by rw [← hs1, get_at hl]; rfl, ?_⟩
      cases lo; simp only at hst hpe; subst hst; subst hpe; rfl
    obtain ⟨lp, g6, g7⟩ := g6
    refine ⟨lp, ?_, rfl, K ++ [.cells []], ?_, rfl⟩
    · rw [List.getElem?_set_ne (by omega), List.getElem?_set_ne hpm5, get_old hml, g6]
    · rw [g7, ← hs1]
      have e2 : (List.map encI (gone t k R)).set k (encI (del t R[k])) = List.map encI (gone t (k + 1) R) := by rw [gone_succ hk, List.map_set]
      have hc : (R[k]).contains t = true := by simpa using hmem
      have e1 : LV.imm 1 (List.filter (fun x => !decide (x = t)) R[k]).length (List.map (LV.int .i64) (List.filter (fun x => !decide (x = t)) R[k])) .no = encI (del t R[k]) := rfl
      have hl2 : ∀ o, (s.set p o).length = s.length := fun o => by simp
      dsimp only
      rw [any_take_succ hk, hc, Bool.or_true, List.append_assoc, set_old (by simpa using hp), List.set_set, e1, e2, set_at (hl2 _), set_at (hl2 _)]
      rfl
  · rintro _ _ _ ⟨K, rfl, rfl⟩
    have hl : (s.set p (.cells ((gone t n R).map encI))).length = s.length := by simp
    refine ⟨lo, by rw [get_at hl]; rfl, by subst hlo; simp, ?_⟩
    subst hlo
    simp only [set_at hl]
    generalize hs1 : AObj.loop _ = ob
    simp [get_at hl]
    refine ⟨_, ⟨_, rfl⟩, by simp, by simp [LV.under], ?_, ?_, ?_⟩
    · exact set_under (rows_under _ _)
    · rw [List.take_of_length_le (by omega)]
    · rw [gone_all (by omega), List.map_map]; rfl
end Go.Hb
end

section
namespace Go.Hb
open Go Go.Proofs Go.RowKit

abbrev Rows := List (List Int)

def put (s : List AObj) (q r p : Nat) (B S R : Rows) : List AObj := ((s.set q (.cells (B.map encI))).set r (.cells (S.map encI))).set p (.cells (R.map encI))

structure Base (s : List AObj) (id q r p n : Nat) : Prop where
  hc : s[id]? = some (.cells (core q r p n))
  hq : q < s.length
  hr : r < s.length
  hp : p < s.length
  iq : id ≠ q
  ir : id ≠ r
  ip : id ≠ p
  qr : q ≠ r
  qp : q ≠ p
  rp : r ≠ p
  hn : n ≤ 1000000

section
variable {s : List AObj} {id q r p n : Nat} (H : Base s id q r p n) (B S R : Rows)
include H
theorem Base.gi : (put s q r p B S R)[id]? = some (.cells (core q r p n)) := by
  unfold put; rw [List.getElem?_set_ne (Ne.symm H.ip), List.getElem?_set_ne (Ne.symm H.ir), List.getElem?_set_ne (Ne.symm H.iq), H.hc]
theorem Base.gq : (put s q r p B S R)[q]? = some (.cells (B.map encI)) := by
  unfold put; rw [List.getElem?_set_ne (Ne.symm H.qp), List.getElem?_set_ne (Ne.symm H.qr), List.getElem?_set_self (by simpa using H.hq)]
theorem Base.gr : (put s q r p B S R)[r]? = some (.cells (S.map encI)) := by
  unfold put; rw [List.getElem?_set_ne (Ne.symm H.rp), List.getElem?_set_self (by simpa using H.hr)]
theorem Base.gp : (put s q r p B S R)[p]? = some (.cells (R.map encI)) := by
  unfold put; rw [List.getElem?_set_self (by simpa using H.hp)]
theorem Base.sq (B' : Rows) : (put s q r p B S R).set q (.cells (B'.map encI)) = put s q r p B' S R := by
  unfold put; rw [List.set_comm _ _ (Ne.symm H.qp), List.set_comm _ _ (Ne.symm H.qr), List.set_set]
theorem Base.sr (S' : Rows) : (put s q r p B S R).set r (.cells (S'.map encI)) = put s q r p B S' R := by
  unfold put; rw [List.set_comm _ _ (Ne.symm H.rp), List.set_set]
theorem Base.sp (R' : Rows) : (put s q r p B S R).set p (.cells (R'.map encI)) = put s q r p B S R' := by
  have := H.hp; unfold put; rw [List.set_set]
end
@[simp] theorem put_length (s : List AObj) (q r p : Nat) (B S R : Rows) : (put s q r p B S R).length = s.length := by simp [put]

section
variable {s : List AObj} {id q r p n ch : Nat} {t x room : Int} {B S R : Rows} {b σ ρ : List Int} {v : List Nat}

theorem aCalls_args {P : Program} {f : FuncId} {args args' : List LV} {s : List AObj} {v : List Nat} {Q : LV → List AObj → List Nat → Prop} (hw : Weaks args args') (h : aCalls P f args' s v Q) : aCalls P f args s v Q :=
  ⟨h.1, fun C vs h1 h2 h3 => h.2 C vs h1 h2 (hw.rel h3)⟩

theorem cancel_p (H : Base s id q r p n) (hR : R.length = n) (hb : ∀ x ∈ R, x.length ≤ 1000000) :
    aCalls Try.prog 20 [.ptr id 0, .int .i64 t] (put s q r p B S R) v fun x s' v' => x = .bool (R.any fun l => l.contains t) ∧ put s q r p B S (R.map (del t)) = s' ∧ v = v' := by
  refine aCalls_mono (cancel_c H.hn hR hb (H.gi B S R) (H.gp B S R) H.ip) ?_
  rintro _ _ _ ⟨rfl, rfl, rfl⟩
  refine ⟨rfl, ?_, rfl⟩
  rw [← H.sp B S R, List.map_map]; rfl

theorem push_q (H : Base s id q r p n) {xs : List Int} (hB : B[ch]? = some b) (hb : b.length + xs.length ≤ 1000000) (h1 : xs ≠ []) :
    aCalls Try.prog 33 [.ptr q ch, encI xs] (put s q r p B S R) v fun x s' v' => x = .tup [] ∧ put s q r p (B.set ch (b ++ xs)) S R = s' ∧ v <+: v' := by
  refine aCalls_mono (push_c (H.gq B S R) (by rw [List.getElem?_map, hB]; rfl) hb h1) ?_
  rintro _ _ _ ⟨rfl, rfl, h⟩
  exact ⟨rfl, by rw [← List.map_set, H.sq], h⟩
theorem push_r (H : Base s id q r p n) {xs : List Int} (hB : S[ch]? = some b) (hb : b.length + xs.length ≤ 1000000) (h1 : xs ≠ []) :
    aCalls Try.prog 33 [.ptr r ch, encI xs] (put s q r p B S R) v fun x s' v' => x = .tup [] ∧ put s q r p B (S.set ch (b ++ xs)) R = s' ∧ v <+: v' := by
  refine aCalls_mono (push_c (H.gr B S R) (by rw [List.getElem?_map, hB]; rfl) hb h1) ?_
  rintro _ _ _ ⟨rfl, rfl, h⟩
  exact ⟨rfl, by rw [← List.map_set, H.sr], h⟩
theorem push_p (H : Base s id q r p n) {xs : List Int} (hB : R[ch]? = some b) (hb : b.length + xs.length ≤ 1000000) (h1 : xs ≠ []) :
    aCalls Try.prog 33 [.ptr p ch, encI xs] (put s q r p B S R) v fun x s' v' => x = .tup [] ∧ put s q r p B S (R.set ch (b ++ xs)) = s' ∧ v <+: v' := by
  refine aCalls_mono (push_c (H.gp B S R) (by rw [List.getElem?_map, hB]; rfl) hb h1) ?_
  rintro _ _ _ ⟨rfl, rfl, h⟩
  exact ⟨rfl, by rw [← List.map_set, H.sp], h⟩
theorem shift_q (H : Base s id q r p n) {m : Nat} (hB : B[ch]? = some b) (hm : m ≤ b.length) :
    aCalls Try.prog 44 [.ptr q ch, .int .i64 m] (put s q r p B S R) v fun x s' v' => x = encI (b.take m) ∧ put s q r p (B.set ch (b.drop m)) S R = s' ∧ v = v' := by
  refine aCalls_mono (shift_c (H.gq B S R) (by rw [List.getElem?_map, hB]; rfl) hm) ?_
  rintro _ _ _ ⟨rfl, rfl, h⟩
  exact ⟨rfl, by rw [← List.map_set, H.sq], h⟩
theorem shift_r (H : Base s id q r p n) {m : Nat} (hB : S[ch]? = some b) (hm : m ≤ b.length) :
    aCalls Try.prog 44 [.ptr r ch, .int .i64 m] (put s q r p B S R) v fun x s' v' => x = encI (b.take m) ∧ put s q r p B (S.set ch (b.drop m)) R = s' ∧ v = v' := by
  refine aCalls_mono (shift_c (H.gr B S R) (by rw [List.getElem?_map, hB]; rfl) hm) ?_
  rintro _ _ _ ⟨rfl, rfl, h⟩
  exact ⟨rfl, by rw [← List.map_set, H.sr], h⟩

theorem get_lt {α : Type} {l : List α} {k : Nat} {x : α} (h : l[k]? = some x) : k < l.length := (List.getElem?_eq_some_iff.1 h).1

set_option maxHeartbeats 1000000 in
theorem send_meet (H : Base s id q r p n) {f : Int} (hR : R.length = n) (hb : ∀ x ∈ R, x.length ≤ 1000000) (hr : R[ch]? = some (f :: ρ)) :
    aCalls Try.prog 15 [.ptr id 0, .int .i64 ch, .int .i64 room, .int .i64 t, .int .i64 x] (put s q r p B S R) v fun y s' v' => y = .tup [.int .i64 f, .bool true] ∧ put s q r p B S (R.map (del f)) = s' ∧ v = v' := by
  have hch : ch < n := by have := get_lt hr; omega
  refine aCalls_of Try.func15 rfl (by decide) (by simp [Try.ntmps15]) false ?_
  simp [Try.f15, H.gi, H.gp, core, hch, hr, encI]
  exact aCalls_mono (cancel_p H hR hb) fun _ _ _ h => h.2

set_option maxHeartbeats 1000000 in
theorem send_lay (H : Base s id q r p n) (hr : R[ch]? = some []) (hb : B[ch]? = some b) (hR : R.length = n) (hB : B.length = n) (hl : b.length + 1 ≤ 1000000) (hroom : (b.length : Int) < room) :
    aCalls Try.prog 15 [.ptr id 0, .int .i64 ch, .int .i64 room, .int .i64 t, .int .i64 x] (put s q r p B S R) v fun y s' v' => y = .tup [.int .i64 (-1), .bool true] ∧ put s q r p (B.set ch (b ++ [x])) S R = s' ∧ v <+: v' := by
  have hch : ch < n := by have := get_lt hr; omega
  refine aCalls_of Try.func15 rfl (by decide) (by simp [Try.ntmps15]) false ?_
  simp [Try.f15, H.gi, H.gp, H.gq, core, hch, hr, encI, hb, hroom, zeros]
  refine aCalls_args (args' := [.ptr q ch, encI [x]]) ⟨Weak.refl _, Weak.imm _ _ _ _, trivial⟩ ?_
  refine aCalls_mono (push_q H hb (by simpa using hl) (by simp)) fun _ _ _ h => h.2

set_option maxRecDepth 4000 in
set_option maxHeartbeats 1000000 in
theorem send_wait (H : Base s id q r p n) (hr : R[ch]? = some []) (hb : B[ch]? = some b) (hs : S[ch]? = some σ) (hR : R.length = n) (hB : B.length = n) (hl : σ.length + 2 ≤ 1000000) (hroom : ¬ (b.length : Int) < room) :
    aCalls Try.prog 15 [.ptr id 0, .int .i64 ch, .int .i64 room, .int .i64 t, .int .i64 x] (put s q r p B S R) v fun y s' v' => y = .tup [.int .i64 (-1), .bool false] ∧ put s q r p B (S.set ch (σ ++ [t, x])) R = s' ∧ v <+: v' := by
  have hch : ch < n := by have := get_lt hr; omega
  refine aCalls_of Try.func15 rfl (by decide) (by simp [Try.ntmps15]) false ?_
  simp [Try.f15, H.gi, H.gp, H.gq, H.gr, core, hch, hr, encI, hb, hroom, zeros]
  refine aCalls_args (args' := [.ptr r ch, encI [t, x]]) ⟨Weak.refl _, Weak.imm _ _ _ _, trivial⟩ ?_
  refine aCalls_mono (push_r H hs (by simpa using hl) (by simp)) fun _ _ _ h => h.2

theorem ready_c (H : Base s id q r p n) (hb : B[ch]? = some b) (hs : S[ch]? = some σ) (hB : B.length = n) (hl : b.length + σ.length ≤ 3000000) :
    aCalls Try.prog 18 [.agg (core q r p n), .int .i64 ch] (put s q r p B S R) v fun y s' v' => y = .bool (decide (0 < b.length + σ.length)) ∧ put s q r p B S R = s' ∧ v = v' := by
  have hch : ch < n := by have := get_lt hb; omega
  refine aCalls_drop ?_
  refine aCalls_of Try.func18 rfl (by decide) (by simp [Try.ntmps18]) false ?_
  simp [Try.f18, core]
  refine aW_draw (.qs [0, 1, 2, 3, 4, 5, 6, 7, 8, 9, 10, 11, 12, 13, 14] .nil) mixed (by kernel_rfl) (by kernel_rfl) ?_
  have hq' : q < (put s q r p B S R).length := by simpa using H.hq
  have hr' : r < (put s q r p B S R).length := by simpa using H.hr
  have hw : IntKind.i64.wrap ((b.length : Int) + σ.length) = ((b.length + σ.length : Nat) : Int) := by rw [IntWalk.i64_in _ ⟨by omega, by omega⟩]; omega
  simp [get_old hq', get_old hr', H.gq, H.gr, hb, hs, encI, hch, hw]
  exact ⟨_, ⟨_, rfl⟩, by simp, by simp [LV.under], fun i o h => .inl h, by omega, rfl⟩
end
end Go.Hb
end

section
namespace Go.Hb
open Go Go.Proofs Go.RowKit

section
variable {s : List AObj} {id q r p n ch : Nat} {t x room : Int} {B S R : Rows} {b σ ρ : List Int} {v : List Nat}

set_option maxRecDepth 10000 in
set_option maxHeartbeats 1000000 in
theorem sender_none (H : Base s id q r p n) (hs : S[ch]? = some []) (hS : S.length = n) :
    aCalls Try.prog 43 [.ptr id 0, .int .i64 ch] (put s q r p B S R) v fun y s' v' => y = .tup [.int .i64 (-1), .int .i64 0, .bool false] ∧ put s q r p B S R = s' ∧ v = v' := by
  have hch : ch < n := by have := get_lt hs; omega
  refine aCalls_of Try.func43 rfl (by decide) (by simp [Try.ntmps43]) false ?_
  simp [Try.f43, H.gi, H.gr, core, hch, hs, encI]

set_option maxRecDepth 10000 in
set_option maxHeartbeats 1000000 in
theorem sender_one (H : Base s id q r p n) {a c : Int} (hs : S[ch]? = some (a :: c :: σ)) (hS : S.length = n) (hl : σ.length ≤ 1000000) :
    aCalls Try.prog 43 [.ptr id 0, .int .i64 ch] (put s q r p B S R) v fun y s' v' => y = .tup [.int .i64 a, .int .i64 c, .bool true] ∧ put s q r p B (S.set ch σ) R = s' ∧ v = v' := by
  have hch : ch < n := by have := get_lt hs; omega
  have hne : ¬ ((σ.length : Int) + 1 + 1 = 0) := by omega
  refine aCalls_of Try.func43 rfl (by decide) (by simp [Try.ntmps43]) false ?_
  simp [Try.f43, H.gi, H.gr, core, hch, hs, encI, hne]
  refine aCalls_mono (by simpa using shift_r (m := 2) H hs (by simp)) ?_
  rintro _ _ _ ⟨rfl, rfl, rfl⟩
  refine aW_draw (.qs [0, 1, 2, 3, 4, 5, 6, 7, 8] .nil) mixed (by kernel_rfl) (by kernel_rfl) ?_
  simp [encI]

set_option maxRecDepth 10000 in
set_option maxHeartbeats 1000000 in
theorem take_sent (H : Base s id q r p n) {a c : Int} (hb : B[ch]? = some []) (hB : B.length = n) (hs : S[ch]? = some (a :: c :: σ)) (hS : S.length = n) (hl : σ.length ≤ 1000000) :
    aCalls Try.prog 34 [.ptr id 0, .int .i64 ch] (put s q r p B S R) v fun y s' v' => y = .tup [.int .i64 c, .int .i64 a] ∧ put s q r p B (S.set ch σ) R = s' ∧ v <+: v' := by
  have hch : ch < n := by have := get_lt hs; omega
  refine aCalls_of Try.func34 rfl (by decide) (by simp [Try.ntmps34]) false ?_
  simp [Try.f34]
  refine aCalls_mono (by simpa using sender_one H hs hS hl) ?_
  rintro _ _ _ ⟨rfl, rfl, rfl⟩
  simp [H.gi, H.gq, core, hch, hb, encI]

set_option maxRecDepth 10000 in
set_option maxHeartbeats 1000000 in
theorem take_lay (H : Base s id q r p n) {x : Int} (hb : B[ch]? = some (x :: b)) (hB : B.length = n) (hs : S[ch]? = some []) (hS : S.length = n) :
    aCalls Try.prog 34 [.ptr id 0, .int .i64 ch] (put s q r p B S R) v fun y s' v' => y = .tup [.int .i64 x, .int .i64 (-1)] ∧ put s q r p (B.set ch b) S R = s' ∧ v <+: v' := by
  have hch : ch < n := by have := get_lt hs; omega
  have hne : ¬ ((b.length : Int) + 1 = 0) := by omega
  refine aCalls_of Try.func34 rfl (by decide) (by simp [Try.ntmps34]) false ?_
  simp [Try.f34]
  refine aCalls_mono (by simpa using sender_none H hs hS) ?_
  rintro _ _ _ ⟨rfl, rfl, rfl⟩
  simp [H.gi, H.gq, core, hch, hb, encI, hne]
  refine aCalls_mono (by simpa using shift_q (m := 1) H hb (by simp)) ?_
  rintro _ _ _ ⟨rfl, rfl, rfl⟩
  simp [encI]

set_option maxRecDepth 10000 in
set_option maxHeartbeats 1000000 in
theorem take_both (H : Base s id q r p n) {x a c : Int} (hb : B[ch]? = some (x :: b)) (hB : B.length = n) (hs : S[ch]? = some (a :: c :: σ)) (hS : S.length = n) (hl : σ.length ≤ 1000000) (hbl : b.length + 2 ≤ 1000000) :
    aCalls Try.prog 34 [.ptr id 0, .int .i64 ch] (put s q r p B S R) v fun y s' v' => y = .tup [.int .i64 x, .int .i64 a] ∧ put s q r p (B.set ch (b ++ [c])) (S.set ch σ) R = s' ∧ v <+: v' := by
  have hch : ch < n := by have := get_lt hs; omega
  have hne : ¬ ((b.length : Int) + 1 = 0) := by omega
  refine aCalls_of Try.func34 rfl (by decide) (by simp [Try.ntmps34]) false ?_
  simp [Try.f34]
  refine aCalls_mono (by simpa using sender_one H hs hS hl) ?_
  rintro _ _ _ ⟨rfl, rfl, rfl⟩
  simp [H.gi, H.gq, core, hch, hb, encI, hne, zeros]
  refine aCalls_args (args' := [.ptr q ch, encI [c]]) ⟨Weak.refl _, Weak.imm _ _ _ _, trivial⟩ ?_
  refine aCalls_mono (push_q H hb (by simp; omega) (by simp)) ?_
  rintro _ _ _ ⟨rfl, rfl, hv⟩
  simp [H.gi, H.gq, core, hch]
  have hb2 : (B.set ch (x :: b ++ [c]))[ch]? = some (x :: (b ++ [c])) := by rw [List.getElem?_set_self (get_lt hb)]; rfl
  refine aCalls_mono (by simpa using shift_q (m := 1) H hb2 (by simp)) ?_
  rintro _ _ _ ⟨rfl, rfl, rfl⟩
  simp [encI, hv]
end
end Go.Hb
end

section
namespace Go.Hb
open Go Go.Proofs Go.RowKit

/-- What is received of a channel: the number, whose it is, what lies there then, and who waits then. -/
def takeOut : List Int → List Int → Int × Int × List Int × List Int
  | [], a :: c :: σ => (c, a, [], σ)
  | x :: b, [] => (x, -1, b, [])
  | x :: b, a :: c :: σ => (x, a, b ++ [c], σ)
  | b, σ => (0, -1, b, σ)

/-- A thread waits behind the others, at each of some channels. -/
def wait (t : Int) (R : Rows) (c : Nat) : Rows := R.set c (R.getD c [] ++ [t])
def waits (t : Int) (cl : List Nat) (R : Rows) : Rows := cl.foldl (wait t) R
theorem waits_length (t : Int) (cl : List Nat) (R : Rows) : (waits t cl R).length = R.length := by
  unfold waits
  induction cl generalizing R with
  | nil => rfl
  | cons c cl ih => rw [List.foldl_cons, ih]; simp [wait]
theorem waits_row (t : Int) (M : Nat) (cl : List Nat) (R : Rows) (h : ∀ x ∈ R, x.length ≤ M) : ∀ x ∈ waits t cl R, x.length ≤ M + cl.length := by
  unfold waits
  induction cl generalizing R M with
  | nil => simpa using h
  | cons c cl ih =>
    intro x hx
    rw [List.foldl_cons] at hx
    have := ih (M + 1) (wait t R c) (fun y hy => by
      rcases List.mem_or_eq_of_mem_set hy with hy | hy
      · have := h y hy; omega
      · subst hy
        rw [List.length_append, List.length_singleton]
        have : (R.getD c []).length ≤ M := by
          rw [List.getD_eq_getElem?_getD]
          cases hc : R[c]? with
          | none => simp
          | some z => exact h z (List.mem_of_getElem? hc)
        omega) x hx
    rw [List.length_cons]; omega
theorem waits_succ (t : Int) {cl : List Nat} {j : Nat} (hj : j < cl.length) (R : Rows) : waits t (cl.take (j + 1)) R = wait t (waits t (cl.take j) R) cl[j] := by
  unfold waits
  rw [List.take_succ_eq_append_getElem hj, List.foldl_append]; rfl

section
variable {s : List AObj} {id q r p n ch : Nat} {t x room : Int} {B S R : Rows} {b σ ρ : List Int} {v : List Nat}

theorem set_same {α : Type} {l : List α} {k : Nat} {x : α} (h : l[k]? = some x) : l.set k x = l := by
  apply List.ext_getElem?
  intro i
  by_cases e : k = i
  · subst e; rw [List.getElem?_set_self (get_lt h), h]
  · rw [List.getElem?_set_ne e]

theorem take_c (H : Base s id q r p n) (hb : B[ch]? = some b) (hB : B.length = n) (hs : S[ch]? = some σ) (hS : S.length = n) (he : σ.length % 2 = 0) (h0 : 0 < b.length + σ.length) (hl : σ.length ≤ 1000000) (hbl : b.length + 1 ≤ 1000000) :
    aCalls Try.prog 34 [.ptr id 0, .int .i64 ch] (put s q r p B S R) v fun y s' v' => y = .tup [.int .i64 (takeOut b σ).1, .int .i64 (takeOut b σ).2.1] ∧ put s q r p (B.set ch (takeOut b σ).2.2.1) (S.set ch (takeOut b σ).2.2.2) R = s' ∧ v <+: v' := by
  cases b with
  | nil =>
    match σ, hs, he, h0, hl with
    | a :: c :: σ, hs, he, h0, hl =>
      refine aCalls_mono (take_sent H hb hB hs hS (by simp at hl; omega)) ?_
      rintro _ _ _ ⟨rfl, rfl, hv⟩
      exact ⟨rfl, by simp only [takeOut]; rw [set_same hb], hv⟩
  | cons x b =>
    match σ, hs, he, h0, hl with
    | [], hs, he, h0, hl =>
      refine aCalls_mono (take_lay H hb hB hs hS) ?_
      rintro _ _ _ ⟨rfl, rfl, hv⟩
      exact ⟨rfl, by simp only [takeOut]; rw [set_same hs], hv⟩
    | a :: c :: σ, hs, he, h0, hl =>
      refine aCalls_mono (take_both H hb hB hs hS (by simp at hl; omega) (by simp at hbl; omega)) ?_
      rintro _ _ _ ⟨rfl, rfl, hv⟩
      exact ⟨rfl, rfl, hv⟩

def ints (cl : List Nat) : List Int := cl.map fun (k : Nat) => (k : Int)

set_option maxRecDepth 10000 in
set_option maxHeartbeats 2000000 in
theorem select_ready (H : Base s id q r p n) (hB : B.length = n) (hS : S.length = n) {cl : List Nat} {k : Nat} (hlen : cl.length ≤ 1000000) (hno : ∀ (j c : Nat), cl[j]? = some c → j < k → B[c]? = some [] ∧ S[c]? = some []) (hk : cl[k]? = some ch)
    (hb : B[ch]? = some b) (hs : S[ch]? = some σ) (he : σ.length % 2 = 0) (h0 : 0 < b.length + σ.length) (hl : σ.length ≤ 1000000) (hbl : b.length + 1 ≤ 1000000) :
    aCalls Try.prog 19 [.ptr id 0, encI (ints cl), .int .i64 t] (put s q r p B S R) v fun y s' v' => y = .tup [.int .i64 k, .int .i64 (takeOut b σ).1, .int .i64 (takeOut b σ).2.1, .bool true] ∧
      put s q r p (B.set ch (takeOut b σ).2.2.1) (S.set ch (takeOut b σ).2.2.2) R = s' ∧ v <+: v' := by
  refine aCalls_of Try.func19 rfl (by decide) (by simp [Try.ntmps19]) false ?_
  simp [Try.f19, encI, ints]
  refine aW_loopC false (fun st => ∃ j : Nat, j ≤ k ∧ st.t 18 = .int .i64 j ∧ st.t 17 = .int .i64 cl.length ∧ st.t 16 = encI (ints cl) ∧ st.t 0 = .ptr id 0 ∧ put s q r p B S R = st.s ∧ v = st.v) (fun st => cl.length - numOf (st.t 18)) ?_ ?_
  · exact ⟨0, by simp [upd_apply, encI, ints]⟩
  rintro t1 s1 v1 ⟨j, hj, h18, h17, h16, ht0, rfl, rfl⟩
  simp only at h18 h17 h16 ht0
  have hkl := get_lt hk
  have hjl : j < cl.length := by omega
  have hjl' : (j : Int) < (cl.length : Int) := by omega
  have hw := wrap_succ hjl hlen
  have hjc : cl[j]? = some cl[j] := List.getElem?_eq_getElem hjl
  by_cases hjk : j = k
  · subst hjk
    have hce : cl[j] = ch := by rw [hk] at hjc; exact (Option.some.inj hjc).symm
    simp [h18, h17, h16, ht0, hjl, encI, ints, H.gi, core]
    rw [hce]
    refine aCalls_mono (by simpa [core] using ready_c H hb hs hB (by omega)) ?_
    rintro _ _ _ ⟨rfl, rfl, rfl⟩
    simp [h0, ht0]
    refine aCalls_mono (by simpa using take_c (R := R) H hb hB hs hS he h0 hl hbl) ?_
    rintro _ _ _ ⟨rfl, rfl, hv⟩
    simp
    exact hv
  · obtain ⟨hb0, hs0⟩ := hno j _ hjc (by omega)
    simp [h18, h17, h16, ht0, hjl, encI, ints, H.gi, core]
    refine aCalls_mono (by simpa [core] using ready_c H hb0 hs0 hB (by simp)) ?_
    rintro _ _ _ ⟨rfl, rfl, rfl⟩
    simp [h18, h17, h16, ht0, hw, numOf, encI, ints]
    exact ⟨⟨j + 1, by omega, rfl⟩, by omega⟩

set_option maxRecDepth 10000 in
set_option maxHeartbeats 2000000 in
theorem select_none (H : Base s id q r p n) (hB : B.length = n) (hR : R.length = n) {cl : List Nat} {M : Nat} (hM : M + cl.length ≤ 1000000) (hRM : ∀ x ∈ R, x.length ≤ M) (hno : ∀ c ∈ cl, B[c]? = some [] ∧ S[c]? = some []) :
    aCalls Try.prog 19 [.ptr id 0, encI (ints cl), .int .i64 t] (put s q r p B S R) v fun y s' v' => y = .tup [.int .i64 (-1), .int .i64 0, .int .i64 (-1), .bool false] ∧
      put s q r p B S (waits t cl R) = s' ∧ v <+: v' := by
  have hlen : cl.length ≤ 1000000 := by omega
  refine aCalls_of Try.func19 rfl (by decide) (by simp [Try.ntmps19]) false ?_
  simp [Try.f19, encI, ints]
  refine aW_loopC false (fun st => ∃ j : Nat, j ≤ cl.length ∧ st.t 18 = .int .i64 j ∧ st.t 17 = .int .i64 cl.length ∧ st.t 16 = encI (ints cl) ∧ st.t 1 = encI (ints cl) ∧ st.t 2 = .int .i64 t ∧ st.t 0 = .ptr id 0 ∧ put s q r p B S R = st.s ∧ v = st.v) (fun st => cl.length - numOf (st.t 18)) ?_ ?_
  · exact ⟨0, by simp [upd_apply, encI, ints]⟩
  rintro t1 s1 v1 ⟨j, hj, h18, h17, h16, ht1, ht2, ht0, rfl, rfl⟩
  simp only at h18 h17 h16 ht0 ht1 ht2
  by_cases hjl : j < cl.length
  · have hjl' : (j : Int) < (cl.length : Int) := by omega
    have hw := wrap_succ hjl hlen
    obtain ⟨hb0, hs0⟩ := hno _ (List.getElem_mem hjl)
    simp [h18, h17, h16, ht0, hjl, encI, ints, H.gi, core]
    refine aCalls_mono (by simpa [core] using ready_c H hb0 hs0 hB (by simp)) ?_
    rintro _ _ _ ⟨rfl, rfl, rfl⟩
    simp [ht0, ht1, ht2, hw, numOf, encI, ints]
    exact ⟨⟨j + 1, by omega, rfl⟩, by omega⟩
  · simp [h18, h17, hjl, ht1, encI, ints]
    refine aW_loopC false (fun st => ∃ j : Nat, j ≤ cl.length ∧ st.t 40 = .int .i64 j ∧ st.t 39 = .int .i64 cl.length ∧ st.t 38 = encI (ints cl) ∧ st.t 2 = .int .i64 t ∧ st.t 0 = .ptr id 0 ∧ put s q r p B S (waits t (cl.take j) R) = st.s ∧ v <+: st.v) (fun st => cl.length - numOf (st.t 40)) ?_ ?_
    · exact ⟨0, by simp [upd_apply, encI, ints, ht0, ht2, waits]⟩
    rintro t2 s2 v2 ⟨j, hj, h40, h39, h38, ht2, ht0, rfl, hv⟩
    simp only at h40 h39 h38 ht0 ht2 hv
    by_cases hjl : j < cl.length
    · have hjl' : (j : Int) < (cl.length : Int) := by omega
      have hw := wrap_succ hjl hlen
      obtain ⟨hb0, hs0⟩ := hno _ (List.getElem_mem hjl)
      have hcn : cl[j] < n := by have := get_lt hb0; omega
      have hcn' : cl[j] < (waits t (cl.take j) R).length := by rw [waits_length]; omega
      have hrow : (waits t (cl.take j) R)[cl[j]]? = some ((waits t (cl.take j) R).getD cl[j] []) := by
        rw [List.getD_eq_getElem?_getD, List.getElem?_eq_getElem hcn']; rfl
      have hM2 := waits_row t M (cl.take j) R hRM _ (List.mem_of_getElem? hrow)
      rw [List.length_take] at hM2
      simp [h40, h39, h38, ht0, ht2, hjl, encI, ints, H.gi, core, hcn, zeros]
      refine aCalls_args (args' := [.ptr p cl[j], encI [t]]) ⟨Weak.refl _, Weak.imm _ _ _ _, trivial⟩ ?_
      refine aCalls_mono (push_p H hrow (by rw [List.length_singleton]; omega) (by simp)) ?_
      rintro _ _ _ ⟨rfl, rfl, hv2⟩
      simp [h40, h39, h38, ht0, ht2, hw, numOf, encI, ints]
      exact ⟨⟨j + 1, by omega, rfl, by rw [waits_succ t hjl]; rfl, hv.trans hv2⟩, by omega⟩
    · have : j = cl.length := by omega
      subst this
      simp [h40, h39]
      exact hv

/-- What a receiver of one channel is told: it is received, or waited for. -/
theorem recv_ready (H : Base s id q r p n) (hB : B.length = n) (hS : S.length = n)
    (hb : B[ch]? = some b) (hs : S[ch]? = some σ) (he : σ.length % 2 = 0) (h0 : 0 < b.length + σ.length) (hl : σ.length ≤ 1000000) (hbl : b.length + 1 ≤ 1000000) :
    aCalls Try.prog 16 [.ptr id 0, .int .i64 ch, .int .i64 t] (put s q r p B S R) v fun y s' v' => y = .tup [.int .i64 (takeOut b σ).1, .int .i64 (takeOut b σ).2.1, .bool true] ∧
      put s q r p (B.set ch (takeOut b σ).2.2.1) (S.set ch (takeOut b σ).2.2.2) R = s' ∧ v <+: v' := by
  refine aCalls_of Try.func16 rfl (by decide) (by simp [Try.ntmps16]) false ?_
  simp [Try.f16, zeros]
  refine aCalls_args (args' := [.ptr id 0, encI (ints [ch]), .int .i64 t]) ⟨Weak.refl _, Weak.imm _ _ _ _, Weak.refl _, trivial⟩ ?_
  refine aCalls_mono (select_ready (cl := [ch]) (k := 0) H hB hS (by simp) (fun _ _ _ h => by omega) rfl hb hs he h0 hl hbl) ?_
  rintro _ _ _ ⟨rfl, rfl, hv⟩
  simp [hv]

theorem recv_wait (H : Base s id q r p n) (hB : B.length = n) (hR : R.length = n) (hRM : ∀ x ∈ R, x.length ≤ 999999) (hb : B[ch]? = some []) (hs : S[ch]? = some []) :
    aCalls Try.prog 16 [.ptr id 0, .int .i64 ch, .int .i64 t] (put s q r p B S R) v fun y s' v' => y = .tup [.int .i64 0, .int .i64 (-1), .bool false] ∧
      put s q r p B S (wait t R ch) = s' ∧ v <+: v' := by
  refine aCalls_of Try.func16 rfl (by decide) (by simp [Try.ntmps16]) false ?_
  simp [Try.f16, zeros]
  refine aCalls_args (args' := [.ptr id 0, encI (ints [ch]), .int .i64 t]) ⟨Weak.refl _, Weak.imm _ _ _ _, Weak.refl _, trivial⟩ ?_
  refine aCalls_mono (select_none (cl := [ch]) (M := 999999) H hB hR (by simp) hRM (fun c hc => by simp at hc; subst hc; exact ⟨hb, hs⟩)) ?_
  rintro _ _ _ ⟨rfl, rfl, hv⟩
  simp [hv, waits]
end
end Go.Hb
end

section
namespace Go.Hb
open Go Go.Proofs Go.RowKit

theorem aRound_args {P : Program} {l : Nat} {args args' : List LV} {s : List AObj} {v : List Nat} {Q : LV → List AObj → List Nat → Prop} (hw : Weaks args args') (h : aRound P l args' s v Q) : aRound P l args s v Q :=
  fun C vs h1 h2 h3 => h C vs h1 h2 (hw.rel h3)

theorem chunk_c {l : List Int} {s : List AObj} {v : List Nat} :
    aCalls Try.prog 40 [encI l, .int .i64 2] s v fun x s' v' => x = .fn (.func 47) [] [.ptr s.length 0, .ptr (s.length + 1) 0] ∧ s ++ [.cells [encI l], .cells [.int .i64 2]] = s' ∧ v = v' := by
  refine aCalls_of Try.func40 rfl (by decide) (by simp [Try.ntmps40]) false ?_
  simp [Try.f40, encI]

theorem drop_two {l : List Int} {k : Nat} {a c : Int} (ha : l[k]? = some a) (hc : l[k + 1]? = some c) : (l.drop k).take 2 = [a, c] := by
  apply List.ext_getElem?
  intro i
  match i with
  | 0 => simp [ha]
  | 1 => simp [hc]
  | i + 2 =>
    rw [List.getElem?_take, if_neg (by omega)]; rfl

set_option maxRecDepth 10000 in
set_option maxHeartbeats 2000000 in
theorem chunk1_c {l i1 i2 : Nat} {σ : List Int} {J : Nat → List AObj → List Nat → Prop} {s : List AObj} {v : List Nat} (he : σ.length % 2 = 0) (hb : σ.length ≤ 1000000) (h0 : J 0 s v)
    (hJ : ∀ k s v, J k s v → s[i1]? = some (.cells [encI σ]) ∧ s[i2]? = some (.cells [.int .i64 2]))
    (hY : ∀ k s v, J k s v → ∀ a c, σ[2 * k]? = some a → σ[2 * k + 1]? = some c → aRound Try.prog l [encI [a, c]] s v fun x s' v' => x = .bool true ∧ J (k + 1) s' v') :
    aCalls Try.prog 47 [.yld l, .ptr i1 0, .ptr i2 0] s v fun _ s' v' => J (σ.length / 2) s' v' := by
  refine aCalls_of Try.func47 rfl (by decide) (by simp [Try.ntmps47]) false ?_
  simp [Try.f47]
  refine aW_loopC false (fun st => ∃ k : Nat, 2 * k ≤ σ.length ∧ st.t 4 = .int .i64 (2 * k : Nat) ∧ st.t 0 = .yld l ∧ st.t 1 = .ptr i1 0 ∧ st.t 2 = .ptr i2 0 ∧ J k st.s st.v) (fun st => σ.length - numOf (st.t 4)) ?_ ?_
  · exact ⟨0, by simp [upd_apply, h0]⟩
  rintro t1 s1 v1 ⟨k, hk, h4, hy, h1, h2, hJk⟩
  simp only at h4 hy h1 h2 hJk
  obtain ⟨a1, a2⟩ := hJ _ _ _ hJk
  by_cases hlt : 2 * k < σ.length
  · have hlt' : ((2 * k : Nat) : Int) < (σ.length : Int) := by omega
    have ha : σ[2 * k]? = some σ[2 * k] := List.getElem?_eq_getElem hlt
    have hl1 : 2 * k + 1 < σ.length := by omega
    have hc : σ[2 * k + 1]? = some σ[2 * k + 1] := List.getElem?_eq_getElem hl1
    have hd := drop_two ha hc
    have hY' := hY _ _ _ hJk _ _ ha hc
    generalize σ[2 * k] = a at ha hd hY'
    generalize σ[2 * k + 1] = c at hc hd hY'
    have hw : IntKind.i64.wrap (((2 * k : Nat) : Int) + 2) = ((2 * k + 2 : Nat) : Int) := by rw [IntWalk.i64_in _ ⟨by omega, by omega⟩]; omega
    generalize hm : 2 * k = m at *
    simp [h4, hy, h1, h2, a1, a2, encI, hlt]
    refine aW_draw (.qs [0, 1, 2, 3, 4, 5, 6] .nil) mixed (by kernel_rfl) (by kernel_rfl) ?_
    have h7 : m ≤ σ.length := by omega
    have h8 : (m : Int) + 2 ≤ σ.length := by omega
    have h9 : ¬ ((σ.length - m : Nat) : Int) < 2 := by omega
    have htn : ((m : Int) + 2).toNat = m + 2 := by omega
    have h10 : m + 2 - m = 2 := by omega
    have h11 : (m : Int) ≤ (m : Int) + 2 := by omega
    have h12 : IntKind.i64.wrap ((m : Int) + 2) = (m : Int) + 2 := by rw [hw]; omega
    have hd2 : List.take 2 (List.drop m (List.map (LV.int .i64) σ)) = [.int .i64 a, .int .i64 c] := by rw [← List.map_drop, ← List.map_take, hd]; rfl
    simp [h4, hy, h1, h2, a1, a2, encI, h7, h8, h9, h11, h12, htn, hd2]
    refine aRound_args (args' := [encI [a, c]]) ⟨Weak.imm _ _ _ _, trivial⟩ ?_
    refine aRound_mono hY' ?_
    rintro _ s' v' ⟨rfl, hJ1⟩
    simp [(hJ _ _ _ hJ1).2, h12, numOf, htn]
    exact ⟨⟨k + 1, by omega, by omega, hJ1⟩, by omega⟩
  · have hlt' : ¬ ((2 * k : Nat) : Int) < (σ.length : Int) := by omega
    have : k = σ.length / 2 := by omega
    generalize hm : 2 * k = m at *
    simp [h4, h1, a1, encI, hlt]
    rw [← this]; exact hJk

/-- Who waits to send, of the numbers of a row. -/
def firsts : List Int → List Int
  | a :: _ :: l => a :: firsts l
  | _ => []
theorem firsts_length : ∀ l : List Int, (firsts l).length = l.length / 2
  | [] => rfl
  | [_] => by simp [firsts]
  | a :: b :: l => by simp [firsts, firsts_length l]; omega
theorem firsts_succ : ∀ (l : List Int) (k : Nat) (a c : Int), l[2 * k]? = some a → l[2 * k + 1]? = some c → (firsts l).take (k + 1) = (firsts l).take k ++ [a]
  | [], k, a, c, h, _ => by simp at h
  | [x], k, a, c, h, h2 => by simp at h2
  | x :: y :: l, 0, a, c, h, h2 => by simp at h; subst h; simp [firsts]
  | x :: y :: l, k + 1, a, c, h, h2 => by
    have e1 : 2 * (k + 1) = 2 * k + 1 + 1 := by omega
    rw [e1] at h h2
    simp only [List.getElem?_cons_succ] at h h2
    have := firsts_succ l k a c h h2
    simp only [firsts, List.take_succ_cons, this, List.cons_append]

/-- A row that grows at its end, one by one. -/
def outV (v : List Nat) (l : List Int) : Nat → LV
  | 0 => .nils
  | k + 1 => .imm 1 (k + 1) ((l.take (k + 1)).map (.int .i64)) (.tip v.length k)
def outT (v : List Nat) : Nat → List Nat
  | 0 => v
  | k + 1 => v ++ [k]
theorem outT_pre (v : List Nat) (k : Nat) : v <+: outT v k := by cases k <;> simp [outT]
theorem outV_weak (v : List Nat) (l : List Int) : Weak (outV v l l.length) (encI l) := by
  cases h : l.length with
  | zero => have := List.length_eq_zero_iff.1 h; subst this; exact Weak.nils _ _ (.inl rfl)
  | succ k => simp only [outV, encI, h, List.take_of_length_le (Nat.le_of_eq h)]; exact Weak.imm _ _ _ _
theorem outV_under (v : List Nat) (l : List Int) (k n : Nat) : (outV v l k).under n = true := by
  cases k with
  | zero => rfl
  | succ k => simp only [outV, LV.under]; exact ints_under _ _

section
variable {s : List AObj} {id q r p n ch : Nat} {t x room : Int} {B S R : Rows} {b σ ρ : List Int} {v : List Nat}
set_option maxRecDepth 10000 in
set_option maxHeartbeats 2000000 in
theorem senders_c (H : Base s id q r p n) (hs : S[ch]? = some σ) (hS : S.length = n) (he : σ.length % 2 = 0) (hl : σ.length ≤ 1000000) :
    aCalls Try.prog 25 [.agg (core q r p n), .int .i64 ch] (put s q r p B S R) v fun y s' v' => y = encI (firsts σ) ∧ put s q r p B S R = s' ∧ v <+: v' := by
  have hch : ch < n := by have := get_lt hs; omega
  have hw : ∀ l, (put s q r p B S R ++ l)[r]? = some (.cells (S.map encI)) := fun l => by rw [get_old (by simpa using H.hr), H.gr]
  have hw0 : ∀ l, (put s q r p B S R ++ l)[s.length]? = l[0]? := fun l => get_at0 (by simp)
  have hw1 : ∀ l k, (put s q r p B S R ++ l)[s.length + k]? = l[k]? := fun l k => get_at (by simp) k
  have hst : ∀ l k o, (put s q r p B S R ++ l).set (s.length + k) o = put s q r p B S R ++ l.set k o := fun l k o => set_at (by simp) k o
  refine aCalls_weak (aCalls_drop ?_)
  refine aCalls_of Try.func25 rfl (by decide) (by simp [Try.ntmps25]) false ?_
  simp [Try.f25, core, hw, hw0, hw1, hst, hch, hs]
  refine aCalls_mono (by simpa using chunk_c) ?_
  rintro _ _ _ ⟨rfl, rfl, rfl⟩
  simp
  refine aW_range (g := 47) (fa := []) (ca := [.ptr (s.length + 2) 0, .ptr (s.length + 3) 0]) (by simp) rfl ?_
  simp
  generalize hlo : ALoop.mk LoopState.ready none _ _ _ _ _ = lo
  let J : Nat → List AObj → List Nat → Prop := fun k s' v' => ∃ K, put s q r p B S R ++ ([.cells (core q r p n), .cells [outV v (firsts σ) k], .cells [encI σ], .cells [.int .i64 2], .loop lo] ++ K) = s' ∧ outT v k = v'
  refine aCalls_mono (chunk1_c (J := J) (σ := σ) he hl ?_ ?_ ?_) ?_
  · exact ⟨[], rfl, rfl⟩
  · rintro k _ _ ⟨K, rfl, rfl⟩
    rw [hw1, hw1]; exact ⟨rfl, rfl⟩
  · rintro k _ _ ⟨K, rfl, rfl⟩ a c ha hc
    refine aRound_of (lp := lo) (by rw [hw1]; rfl) (by subst hlo; rfl) (by subst hlo; simp) ?_
    have hla := congrArg ALoop.assign hlo.symm
    have hbo := congrArg ALoop.body hlo.symm
    have ht := congrArg ALoop.tmps hlo.symm
    have hpa := congrArg ALoop.params hlo.symm
    have hsz := congrArg ALoop.size hlo.symm
    have hst' := congrArg ALoop.state hlo.symm
    have hpe := congrArg ALoop.pending hlo.symm
    simp only at hla hbo ht hpa hsz hst' hpe
    rw [hla, hbo, hsz, hpa, ht]
    refine aC_sound (own := false) _ _ _ ?_
    simp [setParams, hw1, hst, hst', hpe]
    refine aC_sound (own := false) _ _ _ ?_
    simp
    refine aW_draw (.qs [0, 1, 2, 3, 4] (.w 5 [] (.w 6 [] .nil))) mixed (by kernel_rfl) (by kernel_rfl) ?_
    have hk : (k + 1) ≤ (firsts σ).length := by rw [firsts_length]; have := get_lt hc; omega
    have hfl : (firsts σ).length = σ.length / 2 := firsts_length σ
    have hfs := firsts_succ σ k a c ha hc
    clear hla hbo ht
    have hlo2 : ({ state := .ready, pending := none, tmps := lo.tmps, size := lo.size, params := lo.params, assign := lo.assign, body := lo.body } : ALoop) = lo := by
      cases lo; simp only at hst' hpe; subst hst'; subst hpe; rfl
    cases k with
    | zero =>
      have hm1 : 1 ≤ maxLen := by unfold maxLen; omega
      simp [encI, hw1, hst, outV, outT, zeros, hm1]
      refine ⟨_, by rw [hw1]; rfl, rfl, K, ?_, rfl⟩
      simp only [hst, outV, hfs]
      simp [hlo2, encI]
    | succ k =>
      have hm1 : k + 1 + 1 ≤ maxLen := by unfold maxLen; omega
      have hm2 : (k + 1 + 1) * 8 ≤ 140737488355328 := by omega
      simp [encI, hw1, hst, outV, outT, zeros, hm1, hm2]
      refine ⟨_, by rw [hw1]; rfl, rfl, K, ?_, rfl⟩
      simp only [hst, outV, hfs]
      simp [hlo2, encI]
  · rintro _ _ _ ⟨K, rfl, rfl⟩
    refine ⟨lo, by rw [hw1]; rfl, by subst hlo; simp, ?_⟩
    subst hlo
    simp only [hst]
    generalize AObj.loop _ = ob
    simp [hw1]
    refine ⟨_, ⟨_, rfl⟩, by simp, outV_under _ _ _ _, fun i o h => .inl h, ?_⟩
    rw [← firsts_length]
    exact ⟨_, outV_weak _ _, _, WeakS.refl _, rfl, rfl, outT_pre _ _⟩
end
end Go.Hb
end

section
namespace Go.Hb
open Go Go.Proofs Go.RowKit

theorem around_c {a m : Int} {s : List AObj} {v : List Nat} (hm : 0 < m) (hm2 : m ≤ 1000000) (ha : -9223372036854775808 ≤ a) (ha2 : a ≤ 9223372036854775807) :
    aCalls Try.prog 14 [.int .i64 a, .int .i64 m] s v fun y s' v' => ∃ k : Nat, (k : Int) < m ∧ y = .int .i64 k ∧ s = s' ∧ v = v' := by
  refine aCalls_of Try.func14 rfl (by decide) (by simp [Try.ntmps14]) false ?_
  have hm0 : m ≠ 0 := by omega
  by_cases hn : a < 0
  · have h1 : IntKind.i64.wrap (a + 1) = a + 1 := IntWalk.i64_in _ ⟨by omega, by omega⟩
    have h2 : IntKind.i64.wrap (-(a + 1)) = -(a + 1) := IntWalk.i64_in _ ⟨by omega, by omega⟩
    have h2' : IntKind.i64.wrap (-1 + -a) = -(a + 1) := by rw [show -1 + -a = -(a + 1) by omega]; exact h2
    have hb := Int.tmod_nonneg (a := -(a + 1)) m (by omega)
    have hb2 := Int.tmod_lt_of_pos (-(a + 1)) hm
    have h3 : IntKind.i64.wrap (Int.tmod (-(a + 1)) m) = Int.tmod (-(a + 1)) m := IntWalk.i64_in _ ⟨by omega, by omega⟩
    have h4 : (Int.tmod (-(a + 1)) m).toNat = Int.tmod (-(a + 1)) m := by omega
    simp only [Int.neg_tmod] at h3
    simp [Try.f14, hn, hm0, h1, h2, h3]
    refine ⟨(Int.tmod (-(a + 1)) m).toNat, by omega, ?_⟩
    rw [h4, Int.neg_tmod]
  · have hb := Int.tmod_nonneg (a := a) m (by omega)
    have hb2 := Int.tmod_lt_of_pos a hm
    have h3 : IntKind.i64.wrap (Int.tmod a m) = Int.tmod a m := IntWalk.i64_in _ ⟨by omega, by omega⟩
    simp [Try.f14, hn, hm0, h3]
    exact ⟨(Int.tmod a m).toNat, by omega, by omega⟩

theorem sizes28 : sizesT Try.prog 28 = true := by kernel_rfl
theorem place28_4 : placeT Try.prog 28 4 = some (4, 1) := by kernel_rfl
theorem place28_8 : placeT Try.prog 28 8 = some (8, 1) := by kernel_rfl
theorem place28_9 : placeT Try.prog 28 9 = some (9, 1) := by kernel_rfl

/-- n empty rows. -/
def empt (n : Nat) : List LV := List.replicate n (encI [])

theorem WeakS.app (s : List AObj) {l l' : List AObj} (hl : l.length = l'.length) (h : ∀ (i : Nat) (o o' : AObj), l[i]? = some o → l'[i]? = some o' → WeakO o o') : WeakS (s ++ l) (s ++ l') :=
  ⟨by simp [hl], fun i o o' h1 h2 => by
    by_cases e : i < s.length
    · rw [List.getElem?_append_left e] at h1 h2
      rw [h1] at h2; cases h2; exact WeakO.refl o
    · rw [List.getElem?_append_right (by omega)] at h1 h2
      exact h _ _ _ h1 h2⟩
theorem empt_weak (n : Nat) : WeakO (.cells (zeros [.nils] n)) (.cells (empt n)) := by
  unfold WeakO zeros empt
  induction n with
  | zero => trivial
  | succ n ih => exact ⟨Weak.nils _ _ (.inl rfl), ih⟩

def fresh (s : List AObj) (q r p : Nat) : Prop := s.length < q ∧ q < s.length + 4 ∧ s.length < r ∧ r < s.length + 4 ∧ s.length < p ∧ p < s.length + 4 ∧ q ≠ r ∧ q ≠ p ∧ r ≠ p

set_option maxRecDepth 10000 in
set_option maxHeartbeats 2000000 in
theorem new_c {n : Nat} {s : List AObj} {v : List Nat} (hn : n ≤ 1000000) (h0 : n ≠ 0) :
    aCalls Try.prog 8 [.int .i64 n] s v fun y s' v' => ∃ q r p, fresh s q r p ∧ y = .agg (core q r p n) ∧ s ++ [.cells (core q r p n), .cells (empt n), .cells (empt n), .cells (empt n)] = s' ∧ v = v' := by
  refine aCalls_weak ?_
  refine aCalls_of Try.func8 rfl (by decide) (by simp [Try.ntmps8]) false ?_
  have hm : n ≤ maxLen := by unfold maxLen; omega
  have hm2 : (n : Int) * 24 ≤ 140737488355328 := by omega
  have hm3 : (n : Int) ≤ 140737488355328 := by omega
  have hid : ∀ l, (s ++ l)[s.length]? = l[0]? := fun l => get_app0 s l
  have hset : ∀ l o, (s ++ l).set s.length o = s ++ l.set 0 o := fun l o => set_app0 s l o
  simp [Try.f8]
  refine aW_draw (.qs [0, 2, 4] (.or (.or (.w 1 [] (.or (.w 3 [] (.w 5 [] (.qs [6] (.w 7 [] .nil)))) (.w 5 [] (.w 3 [] (.qs [6] (.w 7 [] .nil)))))) (.w 3 [] (.or (.w 1 [] (.w 5 [] (.qs [6] (.w 7 [] .nil)))) (.w 5 [] (.w 1 [] (.qs [6] (.w 7 [] .nil))))))) (.w 5 [] (.or (.w 1 [] (.w 3 [] (.qs [6] (.w 7 [] .nil)))) (.w 3 [] (.w 1 [] (.qs [6] (.w 7 [] .nil)))))))) mixed (by kernel_rfl) (by kernel_rfl) ?_
  simp [hm, hm2, hm3, h0, sizes28, place28_4, place28_8, place28_9, hid, hset]
  have fin : ∀ q r p, fresh s q r p → ∃ y, Weak (.agg [.int .i64 0, .nils, .nils, .nils, .ref 1 q 0 n true, .nils, .nils, .nils, .ref 1 r 0 n true, .ref 1 p 0 n true]) y ∧ ∃ x,
      WeakS (s ++ [.cells [.int .i64 0, .nils, .nils, .nils, .ref 1 q 0 n true, .nils, .nils, .nils, .ref 1 r 0 n true, .ref 1 p 0 n true], .cells (zeros [.nils] n), .cells (zeros [.nils] n), .cells (zeros [.nils] n)]) x ∧
      ∃ q r p, fresh s q r p ∧ y = .agg (core q r p n) ∧ s ++ [.cells (core q r p n), .cells (empt n), .cells (empt n), .cells (empt n)] = x := by
    intro q r p h
    refine ⟨_, Weak.refl _, _, ?_, q, r, p, h, rfl, rfl⟩
    refine WeakS.app s (by simp) ?_
    intro i o o' h1 h2
    match i with
    | 0 => simp at h1 h2; subst h1; subst h2; exact WeakO.refl _
    | 1 => simp at h1 h2; subst h1; subst h2; exact empt_weak n
    | 2 => simp at h1 h2; subst h1; subst h2; exact empt_weak n
    | 3 => simp at h1 h2; subst h1; subst h2; exact empt_weak n
    | i + 4 => simp at h1
  have fr : ∀ i j k : Nat, (0 < i ∧ i < 4 ∧ 0 < j ∧ j < 4 ∧ 0 < k ∧ k < 4 ∧ i ≠ j ∧ i ≠ k ∧ j ≠ k) → fresh s (s.length + i) (s.length + j) (s.length + k) := by
    intro i j k h; unfold fresh; omega
  exact ⟨⟨⟨fin _ _ _ (fr 1 2 3 (by omega)), fin _ _ _ (fr 1 3 2 (by omega))⟩, fin _ _ _ (fr 2 1 3 (by omega)), fin _ _ _ (fr 3 1 2 (by omega))⟩, fin _ _ _ (fr 2 3 1 (by omega)), fin _ _ _ (fr 3 2 1 (by omega))⟩
end Go.Hb
end

