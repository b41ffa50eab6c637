/-
  A layer for reasoning about the program's calls, and contracts of its functions (D6). CONDITIONS: none; each theorem bears its own.
-/
import Derived.Test.YtodibkcciihodaaD5
set_option linter.unusedVariables false
set_option linter.unusedSimpArgs false
section
namespace Go.Hb
open Go Go.Proofs Go.RowKit
attribute [-simp] aC aL aOper aThen aInBlock aIf aPlan aAppend

def around (a m : Int) : Nat := (Int.tmod (if a < 0 then -(a + 1) else a) m).toNat
theorem around_lt {a m : Int} (hm : 0 < m) : (around a m : Int) < m := by
  unfold around
  split
  · have hb := Int.tmod_nonneg (a := -(a + 1)) m (by omega)
    have hb2 := Int.tmod_lt_of_pos (-(a + 1)) hm
    omega
  · have hb := Int.tmod_nonneg (a := a) m (by omega)
    have hb2 := Int.tmod_lt_of_pos a hm
    omega
theorem around_p {a m : Int} (hm : 0 < m) (hm2 : m ≤ 1000000) (ha : I64 a) : PureE Try.prog 9 [.int .i64 a, .int .i64 m] (.int .i64 (around a m)) := by
  refine .of fun s v => ?_
  obtain ⟨ha, ha2⟩ := ha
  refine aCalls_of Try.func9 rfl (by decide) (by simp [Try.ntmps9]) false ?_
  have hres : Try.f9.results = #[.tmp 4] := rfl
  have hm0 : m ≠ 0 := by omega
  unfold around
  by_cases hn : a < 0
  · have h1 : IntKind.i64.wrap (a + 1) = a + 1 := IntWalk.i64_in _ ⟨by omega, by omega⟩
    have h2 : IntKind.i64.wrap (-(a + 1)) = -(a + 1) := IntWalk.i64_in _ ⟨by omega, by omega⟩
    have h2' : IntKind.i64.wrap (-1 + -a) = -(a + 1) := by rw [show -1 + -a = -(a + 1) by omega]; exact h2
    have hb := Int.tmod_nonneg (a := -(a + 1)) m (by omega)
    have hb2 := Int.tmod_lt_of_pos (-(a + 1)) hm
    have h3 : IntKind.i64.wrap (Int.tmod (-(a + 1)) m) = Int.tmod (-(a + 1)) m := IntWalk.i64_in _ ⟨by omega, by omega⟩
    have h4 : ((Int.tmod (-(a + 1)) m).toNat : Int) = Int.tmod (-(a + 1)) m := by omega
    rw [if_pos hn, h4]
    simp only [Int.neg_tmod] at h3 ⊢
    simp [Try.ntmps9, hn, hm0, h1, h2, h3, hres]
    exact EndsE.same rfl (Weak.refl _)
  · have hb := Int.tmod_nonneg (a := a) m (by omega)
    have hb2 := Int.tmod_lt_of_pos a hm
    have h3 : IntKind.i64.wrap (Int.tmod a m) = Int.tmod a m := IntWalk.i64_in _ ⟨by omega, by omega⟩
    have h4 : ((Int.tmod a m).toNat : Int) = Int.tmod a m := by omega
    rw [if_neg hn, h4]
    simp [Try.ntmps9, hn, hm0, h3, hres]
    exact EndsE.same rfl (Weak.refl _)

section
variable {s : List AObj} {v : List Nat} {R : List Tm}

def KeysPost (R : List Tm) (s : List AObj) (v : List Nat) (y : LV) (s' : List AObj) (v' : List Nat) : Prop := y = grI v R.length (ks R) ∧ s = s' ∧ v' = grT v R.length
set_option maxRecDepth 10000 in
set_option maxHeartbeats 4000000 in
theorem keys_p (hn : R.length ≤ 900000) : PureC Try.prog 15 [rf R] (encI (ks R)) := by
  intro s v
  refine aCalls_weak (aCalls_mono (R := KeysPost R s v) ?_ ?_)
  rotate_left
  · rintro y s' v' ⟨rfl, rfl, rfl⟩
    exact ⟨_, s, grI_weak _ _ _ (fun h => by rw [List.length_eq_zero_iff.1 h]; rfl), WeakS.refl _, rfl, rfl, grT_pre _ _⟩
  refine aCalls_of Try.func15 rfl (by decide) (by simp [Try.ntmps15]) false ?_
  have hres : Try.f15.results = #[.tmp 2] := rfl
  simp [Try.ntmps15, rf]
  refine aW_forC false R.length (fun k st' => st'.t 3 = grI v k (ks (R.take k)) ∧ st'.v = grT v k ∧ st'.t 0 = .imm 2 R.length (rcs R) .no ∧ st'.t 4 = .int .i64 k ∧ s = st'.s) ?_ ?_
  · exact ⟨0, Nat.zero_le _, by simp [upd_apply, grI, grV], rfl, by simp [upd_apply], by simp [upd_apply], rfl⟩
  rintro k t1 s1 v1 hk ⟨h3, hv, h0, h4, rfl⟩
  simp only at h0 h3 h4 hv
  subst hv
  by_cases hlt : k < R.length
  · have hw := wrap_succ hlt (Nat.le_trans hn (by omega))
    have g0 := rcs_get0 hlt
    have hkl : (ks (R.take k)).length = k := by rw [ks_len, List.length_take]; omega
    have ha := fun r s' => app_ints (v := v) (c := k) (l := ks (R.take k)) (a := R[k].2) (r := r) (s := s') (by omega) (fun h => by subst h; simp [ks])
    have e : R.take (k + 1) = R.take k ++ [R[k]] := by rw [List.take_add_one, List.getElem?_eq_getElem hlt]; rfl
    have ek : ks (R.take (k + 1)) = ks (R.take k) ++ [R[k].2] := by unfold ks; rw [e, List.map_append]; rfl
    simp [h0, h3, h4, hlt, g0, hw, ha]
    exact hid ⟨hlt, by rw [ek]; simp [upd_apply], rfl, by simp [upd_apply, h0], by simp [upd_apply], rfl⟩
  · have hkk : k = R.length := by omega
    subst hkk
    rw [List.take_length] at h3
    simp [h0, h3, h4, hres]
    exact ⟨rfl, rfl, rfl⟩

def RefSetPost (R : List Tm) (key at_ : Int) (s : List AObj) (v v1 : List Nat) (y : LV) (s' : List AObj) (v' : List Nat) : Prop := ∃ x, y = .tup [x, .bool (decide ((refCancel R key).length < R.length))] ∧ Gr 2 v1 v' (refSet R key at_).length (rcs (refSet R key at_)) x ∧ s = s' ∧ v <+: v1

set_option maxRecDepth 10000 in
set_option maxHeartbeats 8000000 in
theorem refSet_p {key at_ : Int} (hn : R.length ≤ 400000) : PureC Try.prog 11 [rf R, .int .i64 key, .int .i64 at_] (.tup [rf (refSet R key at_), .bool (decide ((refCancel R key).length < R.length))]) := by
  intro s v
  refine aCalls_weak (aCalls_mono (R := fun y s' v' => ∃ v1, RefSetPost R key at_ s v v1 y s' v') ?_ ?_)
  rotate_left
  · rintro y s' v' ⟨v1, x, rfl, h, rfl, hv⟩
    exact ⟨_, s, Weak.tup (ys := [rf (refSet R key at_), _]) ⟨h.weak, Weak.refl _, trivial⟩, WeakS.refl _, rfl, rfl, hv.trans h.pre⟩
  refine aCalls_of Try.func11 rfl (by decide) (by simp [Try.ntmps11]) false ?_
  have hres : Try.f11.results = #[.tmp 6, .tmp 7] := rfl
  have p0 : placeT Try.prog 51 0 = some (0, 1) := by kernel_rfl
  have p1 : placeT Try.prog 51 1 = some (1, 1) := by kernel_rfl
  have p2 : sizesT Try.prog 51 = true := by kernel_rfl
  simp [Try.ntmps11]
  refine aCalls_mono (refCancel_p (by omega) _ _) ?_
  rintro _ _ v1 ⟨rfl, rfl, hv⟩
  obtain ⟨L, hL⟩ : ∃ L, L = refCancel R key := ⟨_, rfl⟩
  have hLl : L.length ≤ R.length := by rw [hL]; exact List.length_filter_le _ _
  have hS : refSet R key at_ = L.take (posK L (at_, key) L.length) ++ ((at_, key) :: L.drop (posK L (at_, key) L.length)) := by rw [hL]; rfl
  rw [← hL]
  simp [rf]
  refine aW_downC false (fun k st' => posK L (at_, key) k = posK L (at_, key) L.length ∧ k ≤ L.length ∧ st'.t 10 = .int .i64 k ∧ st'.t 8 = rf L ∧ st'.t 1 = .int .i64 key ∧ st'.t 2 = .int .i64 at_ ∧ st'.t 9 = .bool (decide (L.length < R.length)) ∧ s = st'.s ∧ v1 = st'.v) ?_ ?_
  · exact ⟨L.length, rfl, Nat.le_refl _, by simp [upd_apply, rf], by simp [upd_apply, rf], by simp [upd_apply], by simp [upd_apply], by simp [upd_apply], rfl, rfl⟩
  rintro k t1 s1 v2 ⟨hp, hk, h10, h8, h1, h2, h9, rfl, rfl⟩
  simp only at h10 h8 h1 h2 h9
  have hkI : (k : Int) ≤ (L.length : Int) := by omega
  have tk := rcs_take L k hk
  have dk := sl_drop hk
  obtain ⟨x1, w1, g1, a1⟩ := app_tms (A := []) (B := L.take k) (Gr.nil 2 v1) (by rw [List.length_take, Nat.min_eq_left hk, List.length_nil]; omega)
  rw [List.length_take, Nat.min_eq_left hk] at a1
  obtain ⟨x2, w2, g2, a2⟩ := app_one (at_, key) g1 (by rw [List.nil_append, List.length_take, Nat.min_eq_left hk]; omega)
  obtain ⟨x3, w3, g3, a3⟩ := app_tms (B := L.drop k) g2 (by rw [List.length_append, List.nil_append, List.length_take, Nat.min_eq_left hk, List.length_drop, List.length_singleton]; omega)
  rw [List.length_drop] at a3
  have fin : posK L (at_, key) k = k → RefSetPost R key at_ s v v1 (.tup [x3, .bool (decide (L.length < R.length))]) s w3 := fun e => by
    refine ⟨x3, by rw [hL], ?_, rfl, hv⟩
    rw [hS, ← hp, e]
    simpa using g3
  by_cases h0 : k = 0
  · subst h0
    have r0 : rcs [] = [] := rfl
    simp [r0] at tk dk a1 a3
    simp [h10, h8, h1, h2, h9, rf, p0, p1, p2, hres, tk, dk, a1, a2, a3]
    exact ⟨v1, fin rfl⟩
  · have hp0 : (0 : Int) < (k : Int) := by omega
    have hp1 : 0 < k := by omega
    obtain ⟨q, hq⟩ : ∃ q, k = q + 1 := ⟨k - 1, by omega⟩
    have hw : IntKind.i64.wrap ((k : Int) - 1) = (q : Int) := by rw [IntWalk.i64_in _ ⟨by omega, by omega⟩]; omega
    have hql : q < L.length := by omega
    have c0 := rcs_get0 hql
    have c1 := rcs_get1 hql
    have e1 : posK L (at_, key) k = if lt2 (at_, key) (tg L q) = true then posK L (at_, key) q else k := by rw [hq]; rfl
    simp only [tg_eq hql, lt2_iff] at e1
    by_cases hl1 : at_ < L[q].1
    · rw [if_pos (.inl hl1)] at e1
      simp [h10, h8, h1, h2, h9, rf, hp0, hp1, hw, hql, c0, c1, hl1]
      exact hid ⟨q, by omega, by rw [← hp, e1], by omega, by simp [upd_apply], by simp [upd_apply, h8, rf], by simp [upd_apply, h1], by simp [upd_apply, h2], by simp [upd_apply, h9], rfl, rfl⟩
    · by_cases hl2 : at_ = L[q].1
      · by_cases hl3 : key < L[q].2
        · rw [if_pos (.inr ⟨hl2, hl3⟩)] at e1
          simp [h10, h8, h1, h2, h9, rf, hp0, hp1, hw, hql, c0, c1, ← hl2, hl3]
          exact hid ⟨q, by omega, by rw [← hp, e1], by omega, by simp [upd_apply], by simp [upd_apply, h8, rf], by simp [upd_apply, h1], by simp [upd_apply, h2], by simp [upd_apply, h9], rfl, rfl⟩
        · rw [if_neg (by omega)] at e1
          simp [h10, h8, h1, h2, h9, rf, hp0, hp1, hw, hql, c0, c1, ← hl2, hl3, p0, p1, p2, hres, tk, dk, a1, a2, a3, hk]
          exact ⟨v1, fin e1⟩
      · rw [if_neg (by omega)] at e1
        simp [h10, h8, h1, h2, h9, rf, hp0, hp1, hw, hql, c0, c1, hl1, hl2, p0, p1, p2, hres, tk, dk, a1, a2, a3, hk]
        exact ⟨v1, fin e1⟩
end
end Go.Hb
end

section
namespace Go.Hb
open Go Go.Proofs Go.RowKit
attribute [-simp] aC aL aOper aThen aInBlock aIf aPlan aAppend

theorem key_inj : ∀ {R : List Tm}, (R.map Prod.snd).Nodup → ∀ t ∈ R, ∀ u ∈ R, t.2 = u.2 → t = u
  | [], _, t, ht, _, _, _ => by simp at ht
  | x :: R, h, t, ht, u, hu, e => by
    simp only [List.map_cons, List.nodup_cons] at h
    rcases List.mem_cons.1 ht with e1 | ht2
    · rcases List.mem_cons.1 hu with e2 | hu2
      · rw [e1, e2]
      · exact absurd (e1 ▸ e ▸ List.mem_map_of_mem hu2) h.1
    · rcases List.mem_cons.1 hu with e2 | hu2
      · exact absurd (e2 ▸ e ▸ List.mem_map_of_mem ht2) h.1
      · exact key_inj h.2 t ht2 u hu2 e
theorem tg_mem {ts : List Tm} {i : Nat} (h : i < ts.length) : tg ts i ∈ ts := by rw [tg_eq h]; exact List.getElem_mem h
theorem Good.at_ {ts R : List Tm} (h : Good ts R) (key : Int) : atV ts key = atV R key := by
  have hh : (find ts key).isSome = (find R key).isSome := by rw [had_eq h.perm, had_eq (.refl R)]
  unfold atV
  cases h1 : find ts key with
  | none =>
    cases h2 : find R key with
    | none => rfl
    | some j => rw [h1, h2] at hh; simp at hh
  | some i =>
    cases h2 : find R key with
    | none => rw [h1, h2] at hh; simp at hh
    | some j =>
      obtain ⟨a1, a2⟩ := find_some h1
      obtain ⟨b1, b2⟩ := find_some h2
      have := key_inj h.keys _ (h.perm.mem_iff.1 (tg_mem a1)) _ (tg_mem b1) (a2.trans b2.symm)
      simp only; rw [this]
theorem Good.first_ {ts R : List Tm} (h : Good ts R) : firstV ts = firstV R := by
  cases R with
  | nil => rw [h.perm.eq_nil]
  | cons t R => obtain ⟨us, rfl⟩ := h.first rfl; rfl

/-- A heap that holds R, laid behind s0. -/
structure HeapAt (s0 s' : List AObj) (hp mid : Nat) (R : List Tm) (st : Int) : Prop where
  ex : ∃ lo ts, HT s' hp mid lo ts st ∧ Good ts R ∧ Same hp mid none s0 s' ∧ (∀ l, lo = some l → s0.length ≤ l)

section
variable {s0 s' : List AObj} {v : List Nat} {hp mid : Nat} {R : List Tm} {st : Int}

theorem same_next {lo : Option Nat} {a b c : List AObj} (h : Same hp mid none a b) (k : Same hp mid lo b c) (hl : ∀ l, lo = some l → a.length ≤ l) : Same hp mid none a c :=
  same_chain h k (by
    cases lo with
    | none => exact .inl rfl
    | some l => exact .inr ⟨l, rfl, hl l rfl⟩)

def NewPost (s : List AObj) (v : List Nat) (y : LV) (s' : List AObj) (v' : List Nat) : Prop := y = .ptr (s.length + 1) 0 ∧ HeapAt s' s' (s.length + 1) s.length [] 0 ∧ (∃ a b, s' = s ++ [a, b]) ∧ v = v'
theorem new_h (s : List AObj) (v : List Nat) : aCalls Try.prog 8 [] s v (NewPost s v) :=
  aCalls_mono new_c fun y s' v' ⟨h1, h2, h3⟩ => ⟨h1, ⟨none, [], by rw [← h2]; exact new_HT, Good.nil, Same.refl _ _ _ _, fun _ h => by cases h⟩, ⟨_, _, h2.symm⟩, h3⟩

def NextPost (s0 : List AObj) (hp mid : Nat) (R : List Tm) (st : Int) (n : Nat) (x : LV) (v : List Nat) (y : LV) (s2 : List AObj) (v2 : List Nat) : Prop := y = x ∧ (∃ N : Nat, N ≤ n ∧ HeapAt s0 s2 hp mid R (st + N)) ∧ v = v2
theorem set_h (H : HeapAt s0 s' hp mid R st) (key at_ : Int) (hn : R.length ≤ 1000) (hst : 0 ≤ st ∧ st ≤ 390000000) :
    aCalls Try.prog 10 [.ptr hp 0, .int .i64 key, .int .i64 at_] s' v (NextPost s0 hp mid (refSet R key at_) st (3 * dg (R.length + 1)) (.bool (decide ((refCancel R key).length < R.length))) v) := by
  obtain ⟨lo, ts, h1, h2, h3, h4⟩ := H.ex
  refine aCalls_mono (set_c (v := v) (key := key) (at_ := at_) h1 (by rw [h2.len]; omega) (by omega)) ?_
  rintro _ s2 _ ⟨l', rfl, k1, k2, k3, rfl⟩
  have hl' : s0.length ≤ l' := by
    rcases k3 with e | e
    · exact h4 l' e.symm
    · exact Nat.le_trans h3.1 e
  refine ⟨by rw [had_eq h2.perm], ⟨setN ts key at_, by have := setN_le ts key at_; rw [h2.len] at this; exact this, ⟨some l', _, k1, set_good h2 key at_, same_next h3 k2 h4, fun l e => by cases e; exact hl'⟩⟩, rfl⟩
theorem cancel_h (H : HeapAt s0 s' hp mid R st) (key : Int) (hst : 0 ≤ st ∧ st ≤ 390000000) :
    aCalls Try.prog 19 [.ptr hp 0, .int .i64 key] s' v (NextPost s0 hp mid (refCancel R key) st (3 * dg R.length) (.bool (decide ((refCancel R key).length < R.length))) v) := by
  obtain ⟨lo, ts, h1, h2, h3, h4⟩ := H.ex
  refine aCalls_mono (cancel_c (v := v) (key := key) h1 (by omega)) ?_
  rintro _ s2 _ ⟨rfl, k1, k2, rfl⟩
  exact ⟨by rw [had_eq h2.perm], ⟨cancelN ts key, by have := cancelN_le ts key; rw [h2.len] at this; exact this, ⟨lo, _, k1, cancel_good h2 key, same_next h3 k2 h4, h4⟩⟩, rfl⟩
def DuePost (s0 : List AObj) (hp mid : Nat) (R : List Tm) (now st : Int) (v : List Nat) (y : LV) (s2 : List AObj) (v2 : List Nat) : Prop := y = encI (ks (R.takeWhile (early now))) ∧ (∃ N : Nat, N ≤ 3 * ((R.takeWhile (early now)).length * dg R.length) ∧ HeapAt s0 s2 hp mid (R.dropWhile (early now)) (st + N)) ∧ v <+: v2
theorem due_h (H : HeapAt s0 s' hp mid R st) (now : Int) (hn : R.length ≤ 1000) (hst : 0 ≤ st ∧ st ≤ 390000000) :
    aCalls Try.prog 12 [.ptr hp 0, .int .i64 now] s' v (DuePost s0 hp mid R now st v) := by
  obtain ⟨lo, ts, h1, h2, h3, h4⟩ := H.ex
  refine aCalls_mono (due_c (v := v) (now := now) h1 h2 hn hst) ?_
  rintro _ s2 v2 ⟨ts', N, rfl, k1, k2, k3, k4, k5⟩
  exact ⟨rfl, ⟨N, k3, ⟨lo, _, k1, k2, same_next h3 k4 h4, h4⟩⟩, k5⟩
theorem at_h (H : HeapAt s0 s' hp mid R st) (key : Int) : aCalls Try.prog 26 [.ptr hp 0, .int .i64 key] s' v fun y s2 v2 => atV R key = y ∧ s' = s2 ∧ v = v2 := by
  obtain ⟨lo, ts, h1, h2, h3, h4⟩ := H.ex
  exact aCalls_mono (at_c h1) fun y s2 v2 ⟨k1, k2, k3⟩ => ⟨by rw [k1, h2.at_], k2, k3⟩
theorem first_h (H : HeapAt s0 s' hp mid R st) : aCalls Try.prog 25 [.ptr hp 0] s' v fun y s2 v2 => firstV R = y ∧ s' = s2 ∧ v = v2 := by
  obtain ⟨lo, ts, h1, h2, h3, h4⟩ := H.ex
  exact aCalls_mono (first_c h1) fun y s2 v2 ⟨k1, k2, k3⟩ => ⟨by rw [k1, h2.first_], k2, k3⟩
theorem len_h (H : HeapAt s0 s' hp mid R st) : aCalls Try.prog 16 [.ptr hp 0] s' v fun y s2 v2 => .int .i64 R.length = y ∧ s' = s2 ∧ v = v2 := by
  obtain ⟨lo, ts, h1, h2, h3, h4⟩ := H.ex
  exact aCalls_mono (len_c h1) fun y s2 v2 ⟨k1, k2, k3⟩ => ⟨by rw [k1, h2.len], k2, k3⟩
theorem steps_h (H : HeapAt s0 s' hp mid R st) : aCalls Try.prog 20 [.ptr hp 0] s' v fun y s2 v2 => .int .i64 st = y ∧ s' = s2 ∧ v = v2 := by
  obtain ⟨lo, ts, h1, h2, h3, h4⟩ := H.ex
  exact aCalls_mono (steps_c h1) fun y s2 v2 ⟨k1, k2, k3⟩ => ⟨k1.symm, k2, k3⟩

/-- What lay there before the heap lies there still. -/
theorem HeapAt.drop {s : List AObj} {a b : AObj} (H : HeapAt (s ++ [a, b]) s' (s.length + 1) s.length R st) : ∃ J, s ++ J = s' := by
  obtain ⟨lo, ts, h1, h2, h3, h4⟩ := H.ex
  refine ⟨s'.drop s.length, ?_⟩
  have hl : s.length ≤ s'.length := by have := h3.1; simp at this; omega
  apply List.ext_getElem?
  intro i
  by_cases hi : i < s.length
  · rw [List.getElem?_append_left hi, h3.2 i (by simp; omega) (by omega) (by omega) (by simp), List.getElem?_append_left hi]
  · rw [List.getElem?_append_right (by omega), List.getElem?_drop, show s.length + (i - s.length) = i by omega]

set_option maxRecDepth 10000 in
set_option maxHeartbeats 4000000 in
theorem lives_p : PureC Try.prog 17 [] (.bool true) := by
  refine .of fun s v => ?_
  refine aCalls_of Try.func17 rfl (by decide) (by simp) false ?_
  have hres : Try.f17.results = #[.tmp 0] := rfl
  simp [Try.ntmps17]
  refine aCalls_mono (new_h s v) ?_
  rintro _ s0 _ ⟨rfl, H0, ⟨a, b, rfl⟩, rfl⟩
  simp
  refine aCalls_mono (set_h (v := v) H0 7 10 (by simp) (by omega)) ?_
  rintro _ s1 _ ⟨rfl, ⟨N1, hN1, H1⟩, rfl⟩
  simp
  have d1 : dg 1 = 1 := by simp [dg]
  have d2 : dg 2 = 2 := by simp [dg]
  simp [d1] at hN1
  have l1 : (refSet [] 7 10) = [(10, 7)] := by decide
  rw [l1] at H1
  refine aCalls_mono (set_h (v := v) H1 3 10 (by simp) (by omega)) ?_
  rintro _ s2 _ ⟨rfl, ⟨N2, hN2, H2⟩, rfl⟩
  simp [d2] at hN2
  have l2 : (refSet [(10, 7)] 3 10) = [(10, 3), (10, 7)] := by decide
  rw [l2] at H2
  simp
  refine aCalls_mono (due_h (v := v) H2 10 (by simp) (by omega)) ?_
  rintro _ s3 v3 ⟨rfl, ⟨N3, hN3, H3⟩, hv⟩
  have e : ks ([((10 : Int), (3 : Int)), (10, 7)].takeWhile (early 10)) = [3, 7] := by decide
  rw [e]
  have hz : zeros [.int .i64 0] 2 = [.int .i64 0, .int .i64 0] := rfl
  simp [hz]
  refine aCalls_mono (aCalls_argw (args := [encI [3, 7], .imm 1 2 [.int .i64 3, .int .i64 7] .full]) (args' := [encI [3, 7], encI [3, 7]]) ⟨Weak.refl _, Weak.imm _ _ _ _, trivial⟩ (sameInts_p (a := [3, 7]) (b := [3, 7]) (by simp) _ _)) ?_
  rintro _ _ _ ⟨rfl, rfl, rfl⟩
  simp [hres]
  exact ⟨H3.drop, rfl, Weak.refl _, hv⟩
end
end Go.Hb
end

section
namespace Go.Hb
open Go Go.Proofs Go.RowKit
attribute [-simp] aC aL aOper aThen aInBlock aIf aPlan aAppend

theorem HeapAt.app {s0 s' : List AObj} {hp mid : Nat} {R : List Tm} {st : Int} (H : HeapAt s0 s' hp mid R st) (J : List AObj) : HeapAt s0 (s' ++ J) hp mid R st := by
  obtain ⟨lo, ts, h1, h2, h3, h4⟩ := H.ex
  refine ⟨lo, ts, ?_, h2, ⟨by have := h3.1; simp; omega, fun i hi a b c => by rw [List.getElem?_append_left (by have := h3.1; omega)]; exact h3.2 i hi a b c⟩, h4⟩
  cases lo with
  | none =>
    obtain ⟨k1, k2, k3, k4⟩ := h1
    exact ⟨k1, by rw [List.getElem?_append_left (List.getElem?_eq_some_iff.1 k2).1]; exact k2, by rw [List.getElem?_append_left (List.getElem?_eq_some_iff.1 k3).1]; exact k3, k4⟩
  | some l =>
    obtain ⟨r, f, h, hI⟩ := h1
    exact ⟨r, f, h.app J, hI⟩

/-- A deed: its kind, key and tick. -/
structure Deed where
  kind : Int
  key : Int
  at_ : Int
def Deed.lv (d : Deed) : List LV := [.int .i64 d.kind, .int .i64 d.key, .int .i64 d.at_]
def doR (R : List Tm) (d : Deed) : List Tm := if d.kind = 0 then refSet R d.key d.at_ else if d.kind = 1 then refCancel R d.key else if d.kind = 2 then R.dropWhile (early d.at_) else R
def doN (R : List Tm) (d : Deed) : Nat := if d.kind = 2 then (R.takeWhile (early d.at_)).length else 1

def DoesPost (s0 : List AObj) (hp mid : Nat) (R : List Tm) (d : Deed) (st : Int) (v : List Nat) (y : LV) (s2 : List AObj) (v2 : List Nat) : Prop :=
  y = .tup [rf (doR R d), .bool true] ∧ (∃ N : Nat, N ≤ 3 * (doN R d * dg (R.length + 1)) ∧ HeapAt s0 s2 hp mid (doR R d) (st + N)) ∧ v <+: v2

section
variable {s0 s' : List AObj} {v : List Nat} {hp mid : Nat} {R : List Tm} {st : Int}
set_option maxRecDepth 10000 in
set_option maxHeartbeats 8000000 in
theorem does_c (H : HeapAt s0 s' hp mid R st) (d : Deed) (hn : R.length ≤ 900) (hst : 0 ≤ st ∧ st ≤ 390000000) :
    aCalls Try.prog 22 [.ptr hp 0, rf R, .agg d.lv] s' v (DoesPost s0 hp mid R d st v) := by
  obtain ⟨kind, key, at_⟩ := d
  have hdg := dg_mono (a := R.length) (b := R.length + 1) (by omega)
  unfold Deed.lv
  refine aCalls_of Try.func22 rfl (by decide) (by simp [Try.ntmps22]) false ?_
  have hres : Try.f22.results = #[.tmp 6, .tmp 7] := rfl
  have H1 := H.app [.cells [.int .i64 kind, .int .i64 key, .int .i64 at_]]
  simp [Try.ntmps22]
  by_cases k0 : kind = 0
  · subst k0
    simp [get_app0]
    refine aCalls_mono (refSet_p (by omega) _ _) ?_
    rintro _ _ v1 ⟨rfl, rfl, hv1⟩
    simp [get_app0]
    refine aCalls_mono (set_h (v := v1) H1 key at_ (by omega) hst) ?_
    rintro _ s2 _ ⟨rfl, ⟨N, hN, H2⟩, rfl⟩
    simp [hres]
    exact ⟨by simp [doR], ⟨N, by simp only [doN]; simpa using hN, by simpa [doR] using H2⟩, hv1⟩
  · by_cases k1 : kind = 1
    · subst k1
      simp [get_app0]
      refine aCalls_mono (refCancel_p (by omega) _ _) ?_
      rintro _ _ v1 ⟨rfl, rfl, hv1⟩
      simp [get_app0]
      refine aCalls_mono (cancel_h (v := v1) H1 key hst) ?_
      rintro _ s2 _ ⟨rfl, ⟨N, hN, H2⟩, rfl⟩
      simp [hres]
      exact ⟨by simp [doR], ⟨N, by have : doN R ⟨1, key, at_⟩ = 1 := rfl
                                   rw [this]; omega, by simpa [doR] using H2⟩, hv1⟩
    · by_cases k2 : kind = 2
      · subst k2
        simp [get_app0]
        refine aCalls_mono (refDue_p (by omega) _ _) ?_
        rintro _ _ v1 ⟨rfl, rfl, hv1⟩
        simp [get_app0]
        refine aCalls_mono (due_h (v := v1) H1 at_ (by omega) hst) ?_
        rintro _ s2 v2 ⟨rfl, ⟨N, hN, H2⟩, hv2⟩
        simp
        have hl := early_len R at_
        refine aCalls_mono (sameInts_p (by rw [ks_len]; omega) _ _) ?_
        rintro _ _ _ ⟨rfl, rfl, rfl⟩
        simp [hres]
        refine ⟨by simp [doR], ⟨N, ?_, by simpa [doR] using H2⟩, hv1.trans hv2⟩
        have : doN R ⟨2, key, at_⟩ = (R.takeWhile (early at_)).length := rfl
        rw [this]
        have := Nat.mul_le_mul_left (R.takeWhile (early at_)).length hdg
        omega
      · simp [get_app0, k0, k1, k2]
        refine aCalls_mono (at_h (v := v) H1 key) ?_
        rintro _ _ _ ⟨rfl, rfl, rfl⟩
        have e1 : doR R ⟨kind, key, at_⟩ = R := by simp [doR, k0, k1, k2]
        have ha := refAt_c (R := R) (key := key) (s := s' ++ [.cells [.int .i64 kind, .int .i64 key, .int .i64 at_]]) (v := v) (by omega)
        unfold atV at ha ⊢
        cases hf : find R key with
        | none =>
          rw [hf] at ha
          simp [get_app0]
          refine aCalls_mono ha ?_
          rintro _ _ _ ⟨rfl, rfl, rfl⟩
          simp [hres]
          exact ⟨by rw [e1], ⟨0, Nat.zero_le _, by rw [e1]; simpa using H1⟩, List.prefix_refl _⟩
        | some i =>
          rw [hf] at ha
          simp [get_app0]
          refine aCalls_mono ha ?_
          rintro _ _ _ ⟨rfl, rfl, rfl⟩
          simp [hres]
          exact ⟨by rw [e1], ⟨0, Nat.zero_le _, by rw [e1]; simpa using H1⟩, List.prefix_refl _⟩
end
end Go.Hb
end

