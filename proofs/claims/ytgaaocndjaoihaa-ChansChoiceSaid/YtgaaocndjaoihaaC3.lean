/-
  A layer for reasoning about the program's calls, and contracts of its functions (C3). CONDITIONS: none; each theorem bears its own.
-/
import Derived.Test.YtgaaocndjaoihaaC2
set_option linter.unusedVariables false
set_option linter.unusedSimpArgs false
section
namespace Go.Hb
open Go Go.Proofs Go.RowKit
attribute [-simp] aC aL aOper aThen aInBlock aIf aPlan

section
variable {n ch : Nat} {B S R : Rows} {b σ ρ : List Int} {t : Int}

theorem map_at {B : Rows} {ch : Nat} {b : List Int} (h : B[ch]? = some b) : (B.map encI)[ch]? = some (encI b) := by simp [h]
theorem drop_at {α : Type} {l : List α} {k : Nat} {x : α} (h : l[k]? = some x) : (l.drop k)[0]? = some x := by simpa using h

set_option maxRecDepth 10000 in
set_option maxHeartbeats 2000000 in
theorem refReady_c (hB : B[ch]? = some b) (hS : S[ch]? = some σ) :
    PureE Try.prog 23 [.agg (dcore B S R), .int .i64 ch] (.bool (decide (0 < b.length) || decide (0 < σ.length))) := by
  refine .of fun s v => ?_
  refine aCalls_of Try.func23 rfl (by decide) (by simp [Try.ntmps23]) false ?_
  have hres : Try.f23.results = #[.tmp 4] := rfl
  obtain ⟨h1, rfl⟩ := List.getElem?_eq_some_iff.1 hB
  obtain ⟨h2, rfl⟩ := List.getElem?_eq_some_iff.1 hS
  by_cases hb : 0 < B[ch].length
  · simp [Try.ntmps23, dcore, rows, h1, encI, hb, hres]
    exact EndsE.at rfl (Weak.refl _)
  · by_cases hs : 0 < S[ch].length
    · simp [Try.ntmps23, dcore, rows, h1, h2, encI, hb, hs, hres]
      exact EndsE.at rfl (Weak.refl _)
    · simp [Try.ntmps23, dcore, rows, h1, h2, encI, hb, hs, hres]
      exact EndsE.at rfl (Weak.refl _)

set_option maxRecDepth 10000 in
set_option maxHeartbeats 2000000 in
theorem refWaits_c (hR : R[ch]? = some ρ) (hl : ρ.length ≤ 1000000) :
    PureE Try.prog 41 [.agg (dcore B S R), .int .i64 ch, .int .i64 t] (.bool (decide (t ∈ ρ))) := by
  refine .of fun s v => ?_
  refine aCalls_of Try.func41 rfl (by decide) (by simp [Try.ntmps41]) false ?_
  have hres : Try.f41.results = #[.tmp 6] := rfl
  obtain ⟨h1, rfl⟩ := List.getElem?_eq_some_iff.1 hR
  simp [Try.ntmps41]
  refine aW_forC false R[ch].length (fun k st => (∀ j x, j < k → R[ch][j]? = some x → x ≠ t) ∧ st.t 7 = .int .i64 k ∧ st.t 3 = .ptr s.length 0 ∧ st.t 1 = .int .i64 ch ∧ st.t 2 = .int .i64 t ∧ s ++ [.cells (dcore B S R)] = st.s ∧ v = st.v) ?_ ?_
  · exact ⟨0, Nat.zero_le _, by simp [upd_apply]⟩
  rintro k t1 s1 v1 hk ⟨hno, h7, h3, h0, h2, rfl, rfl⟩
  simp only at h7 h3 h0 h2
  by_cases hlt : k < R[ch].length
  · have hlt' : (k : Int) < (R[ch].length : Int) := by omega
    have hw := wrap_succ hlt hl
    by_cases he : R[ch][k] = t
    · have hm : t ∈ R[ch] := he ▸ List.getElem_mem hlt
      simp [h7, h3, h0, h2, dcore, rows, encI, h1, hlt, he, hres, hm]
      exact EndsE.at rfl (Weak.refl _)
    · simp [h7, h3, h0, h2, dcore, rows, encI, h1, hlt, he, hw]
      refine hid ⟨hlt, fun j x hj hx => ?_, by simp [upd_apply, hw], by simp [upd_apply, h3], by simp [upd_apply, h0], by simp [upd_apply, h2], rfl, rfl⟩
      rcases Nat.lt_or_ge j k with h' | h'
      · exact hno j x h' hx
      · have : j = k := by omega
        subst this
        rw [List.getElem?_eq_getElem hlt] at hx; cases hx; exact he
  · have hm : t ∉ R[ch] := fun hm => by
      obtain ⟨j, hj⟩ := List.getElem?_of_mem hm
      exact hno j t (by have := (List.getElem?_eq_some_iff.1 hj).1; omega) hj rfl
    simp [h7, h3, h0, h2, dcore, rows, encI, h1, hlt, hres, hm]
    exact EndsE.at rfl (Weak.refl _)

theorem drop_map_int (l : List Int) (k : Nat) : (l.map (LV.int .i64)).drop k = (l.drop k).map (LV.int .i64) := by rw [List.map_drop]

set_option maxRecDepth 10000 in
set_option maxHeartbeats 2000000 in
theorem refSenders_c (hS : S[ch]? = some σ) (he : σ.length % 2 = 0) (hl : σ.length ≤ 1000000) :
    PureC Try.prog 26 [.agg (dcore B S R), .int .i64 ch] (encI (firsts σ)) := by
  refine .of fun s v => ?_
  refine aCalls_of Try.func26 rfl (by decide) (by simp [Try.ntmps26]) false ?_
  have hres : Try.f26.results = #[.tmp 4] := rfl
  obtain ⟨h1, rfl⟩ := List.getElem?_eq_some_iff.1 hS
  have hfl := firsts_length S[ch]
  simp [Try.ntmps26]
  refine aW_forC false (S[ch].length / 2) (fun k st => st.t 6 = .int .i64 (2 * k : Nat) ∧ st.t 2 = .ptr s.length 0 ∧ st.t 1 = .int .i64 ch ∧ st.t 5 = outV v (firsts S[ch]) k ∧ s ++ [.cells (dcore B S R)] = st.s ∧ outT v k = st.v) ?_ ?_
  · exact ⟨0, Nat.zero_le _, by simp [upd_apply, outV, outT]⟩
  rintro k t1 s1 v1 hk ⟨h6, h2, h0, h5, rfl, rfl⟩
  simp only at h6 h2 h0 h5
  by_cases hlt : k < S[ch].length / 2
  · have ha : 2 * k < S[ch].length := by omega
    have hc : 2 * k + 1 < S[ch].length := by omega
    have hlt' : 2 * (k : Int) < (S[ch].length : Int) := by omega
    have hw : IntKind.i64.wrap (2 * (k : Int) + 2) = 2 * (k : Int) + 2 := IntWalk.i64_in _ ⟨by omega, by omega⟩
    have hnn : ¬ (2 * (k : Int) < 0) := by omega
    have htn : (2 * (k : Int)).toNat = 2 * k := by omega
    have hsucc := firsts_succ S[ch] k S[ch][2 * k] S[ch][2 * k + 1] (by simp [ha]) (by simp [hc])
    cases k with
    | zero =>
      simp [h6, h2, h0, h5, dcore, rows, encI, h1, ha, outV, outT, maxLen]
      refine hid ⟨hlt, by simp [upd_apply], by simp [upd_apply, h2], by simp [upd_apply, h0], ?_, rfl, rfl⟩
      simp at hsucc
      simp [upd_apply, outV, hsucc]
    | succ j =>
      have hj1 : j + 1 + 1 ≤ maxLen := by unfold maxLen; omega
      have hj2 : (j + 1 + 1) * 8 ≤ 140737488355328 := by omega
      have htn2 : (2 * ((j : Int) + 1)).toNat = 2 * (j + 1) := by omega
      have hnn2 : (0 : Int) ≤ 2 * ((j : Int) + 1) := by omega
      have hlt2 : 2 * ((j : Int) + 1) < (S[ch].length : Int) := by omega
      have hw2 : IntKind.i64.wrap (2 * ((j : Int) + 1) + 2) = 2 * ((j : Int) + 1) + 2 := IntWalk.i64_in _ ⟨by omega, by omega⟩
      simp [h6, h2, h0, h5, dcore, rows, encI, h1, ha, outV, outT, hj1, hj2, htn2, hnn2, hlt2]
      refine hid ⟨hlt, by simp [upd_apply, hw2]; omega, by simp [upd_apply, h2], by simp [upd_apply, h0], ?_, rfl, ?_⟩
      · simp [upd_apply, outV, hsucc]
      · simp [outT]
  · have hk' : k = S[ch].length / 2 := by omega
    subst hk'
    have hge : ¬ (2 * ((S[ch].length / 2 : Nat) : Int) < (S[ch].length : Int)) := by omega
    have hge2 : ¬ (2 * ((S[ch].length : Int) / 2) < (S[ch].length : Int)) := by omega
    simp [h6, h2, h0, h5, dcore, rows, encI, h1, hge2, hres]
    refine Ends.at (outV_under _ _ _ _) ?_ (outT_pre v _)
    rw [← hfl]; exact outV_weak v (firsts S[ch])
end
end Go.Hb
end

section
namespace Go.Hb
open Go Go.Proofs Go.RowKit
attribute [-simp] aC aL aOper aThen aInBlock aIf aPlan

def around (a m : Int) : Nat := (Int.tmod (if a < 0 then -(a + 1) else a) m).toNat
theorem around_lt {a m : Int} (hm : 0 < m) : (around a m : Int) < m := by
  unfold around
  split
  · have hb := Int.tmod_nonneg (a := -(a + 1)) m (by omega)
    have hb2 := Int.tmod_lt_of_pos (-(a + 1)) hm
    omega
  · have hb := Int.tmod_nonneg (a := a) m (by omega)
    have hb2 := Int.tmod_lt_of_pos a hm
    omega
theorem around_p {a m : Int} (hm : 0 < m) (hm2 : m ≤ 1000000) (ha : I64 a) : PureE Try.prog 14 [.int .i64 a, .int .i64 m] (.int .i64 (around a m)) := by
  refine .of fun s v => ?_
  obtain ⟨ha, ha2⟩ := ha
  refine aCalls_of Try.func14 rfl (by decide) (by simp [Try.ntmps14]) false ?_
  have hres : Try.f14.results = #[.tmp 4] := rfl
  have hm0 : m ≠ 0 := by omega
  unfold around
  by_cases hn : a < 0
  · have h1 : IntKind.i64.wrap (a + 1) = a + 1 := IntWalk.i64_in _ ⟨by omega, by omega⟩
    have h2 : IntKind.i64.wrap (-(a + 1)) = -(a + 1) := IntWalk.i64_in _ ⟨by omega, by omega⟩
    have h2' : IntKind.i64.wrap (-1 + -a) = -(a + 1) := by rw [show -1 + -a = -(a + 1) by omega]; exact h2
    have hb := Int.tmod_nonneg (a := -(a + 1)) m (by omega)
    have hb2 := Int.tmod_lt_of_pos (-(a + 1)) hm
    have h3 : IntKind.i64.wrap (Int.tmod (-(a + 1)) m) = Int.tmod (-(a + 1)) m := IntWalk.i64_in _ ⟨by omega, by omega⟩
    have h4 : ((Int.tmod (-(a + 1)) m).toNat : Int) = Int.tmod (-(a + 1)) m := by omega
    rw [if_pos hn, h4]
    simp only [Int.neg_tmod] at h3 ⊢
    simp [Try.ntmps14, hn, hm0, h1, h2, h3, hres]
    exact EndsE.same rfl (Weak.refl _)
  · have hb := Int.tmod_nonneg (a := a) m (by omega)
    have hb2 := Int.tmod_lt_of_pos a hm
    have h3 : IntKind.i64.wrap (Int.tmod a m) = Int.tmod a m := IntWalk.i64_in _ ⟨by omega, by omega⟩
    have h4 : ((Int.tmod a m).toNat : Int) = Int.tmod a m := by omega
    rw [if_neg hn, h4]
    simp [Try.ntmps14, hn, hm0, h3, hres]
    exact EndsE.same rfl (Weak.refl _)

/-- The four numbers of places. -/
def four (p : List Int) : LV := .agg (p.map (.int .i64))

theorem room_p {p : List Int} {ch : Nat} {a : Int} (hp : p.length = 4) (hch : p[ch]? = some a) (ha : I64 a) : PureE Try.prog 12 [four p, .int .i64 ch] (.int .i64 (around a 4)) := by
  refine .of fun s v => ?_
  refine aCalls_of Try.func12 rfl (by decide) (by simp [Try.ntmps12]) false ?_
  have hres : Try.f12.results = #[.tmp 4] := rfl
  obtain ⟨h1, rfl⟩ := List.getElem?_eq_some_iff.1 hch
  have h4 : ch < 4 := by omega
  have h4' : (ch : Int) < 4 := by omega
  have h5 : ch + 1 ≤ 4 := by omega
  simp [Try.ntmps12, four, h4, h4', h1, hp, h5]
  refine aCalls_mono (around_p (m := 4) (by omega) (by omega) ha _ _) ?_
  rintro _ _ _ ⟨rfl, rfl, rfl⟩
  simp [hres]
  exact EndsE.at rfl (Weak.refl _)

/-- Does t wait for nothing? -/
def freeB (t : Int) (S R : Rows) : Bool := (List.range R.length).all fun k => !(decide (t ∈ R.getD k []) || decide (t ∈ firsts (S.getD k [])))

theorem at_mem {l : List Int} {x : Int} : (0 ≤ at_ l x) ↔ x ∈ l := by
  unfold at_ idx
  cases h : l.findIdx? fun y => decide (y = x) with
  | none =>
    have := List.findIdx?_eq_none_iff.1 h
    simp only [decide_eq_false_iff_not] at this
    exact ⟨fun h => by simp at h, fun hm => absurd rfl (this x hm)⟩
  | some i =>
    obtain ⟨hi, hp, _⟩ := List.findIdx?_eq_some_iff_getElem.1 h
    refine ⟨fun _ => ?_, fun _ => by simp⟩
    have : l[i] = x := by simpa using hp
    exact this ▸ List.getElem_mem hi

theorem firsts_le (l : List Int) : (firsts l).length ≤ l.length := by rw [firsts_length]; omega

set_option maxRecDepth 10000 in
set_option maxHeartbeats 2000000 in
theorem free_p {t : Int} {B S R : Rows} (hSR : S.length = R.length) (hn : R.length ≤ 1000000) (hR : ∀ x ∈ R, x.length ≤ 1000000) (hS : ∀ x ∈ S, x.length ≤ 1000000 ∧ x.length % 2 = 0) :
    PureC Try.prog 28 [.agg (dcore B S R), .int .i64 t] (.bool (freeB t S R)) := by
  refine .of fun s v => ?_
  refine aCalls_of Try.func28 rfl (by decide) (by simp [Try.ntmps28]) false ?_
  have hres : Try.f28.results = #[.tmp 4] := rfl
  simp [Try.ntmps28]
  refine aW_forC false R.length (fun k st => (∀ j, j < k → (!(decide (t ∈ R.getD j []) || decide (t ∈ firsts (S.getD j [])))) = true) ∧ st.t 5 = .int .i64 k ∧ st.t 2 = .ptr s.length 0 ∧ st.t 1 = .int .i64 t ∧ s ++ [.cells (dcore B S R)] = st.s ∧ v <+: st.v) ?_ ?_
  · exact ⟨0, Nat.zero_le _, by simp [upd_apply]⟩
  rintro k t1 s1 v1 hk ⟨hno, h5, h2, h1, rfl, hv⟩
  simp only at h5 h2 h1 hv
  by_cases hlt : k < R.length
  · have hlt' : (k : Int) < (R.length : Int) := by omega
    have hltS : k < S.length := by omega
    have hw := wrap_succ hlt hn
    have hS2 := hS _ (List.getElem_mem hltS)
    simp [h5, h2, h1, dcore, rows, hlt]
    refine aCalls_mono (refWaits_c (ρ := R[k]) (by simp) (hR _ (List.getElem_mem hlt)) _ _) ?_
    rintro _ _ _ ⟨rfl, rfl, rfl⟩
    simp [h5, h2, h1, dcore, rows, hlt]
    refine aCalls_mono (refSenders_c (σ := S[k]) (by simp [hltS]) hS2.2 hS2.1 _ _) ?_
    rintro _ _ v3 ⟨rfl, rfl, hv3⟩
    simp [h5, h2, h1, dcore, rows, hlt]
    refine aCalls_mono (refIndex_c (Nat.le_trans (firsts_le _) hS2.1)) ?_
    rintro _ _ _ ⟨rfl, rfl, rfl⟩
    have hm := at_mem (l := firsts S[k]) (x := t)
    have hv' := hv.trans hv3
    have hg : R.getD k [] = R[k] := by simp [hlt]
    have hg2 : S.getD k [] = S[k] := by simp [hltS]
    by_cases hw1 : t ∈ R[k]
    · have : freeB t S R = false := by
        unfold freeB; rw [List.all_eq_false]
        exact ⟨k, List.mem_range.2 hlt, by rw [hg]; simp [hw1]⟩
      simp [h5, h2, h1, dcore, rows, hlt, hw1, hres, this]
      exact Ends.at rfl (Weak.refl _) hv'
    · by_cases hw2 : t ∈ firsts S[k]
      · have : freeB t S R = false := by
          unfold freeB; rw [List.all_eq_false]
          exact ⟨k, List.mem_range.2 hlt, by rw [hg, hg2]; simp [hw2]⟩
        simp [h5, h2, h1, dcore, rows, hlt, hw1, hres, this, hm.2 hw2]
        exact Ends.at rfl (Weak.refl _) hv'
      · have hneg : ¬ (0 ≤ at_ (firsts S[k]) t) := fun h => hw2 (hm.1 h)
        simp [h5, h2, h1, dcore, rows, hlt, hw1, hneg]
        refine hid ⟨hlt, fun j hj => ?_, by simp [upd_apply, hw], by simp [upd_apply, h2], by simp [upd_apply, h1], rfl, hv'⟩
        rcases Nat.lt_or_ge j k with h' | h'
        · exact hno j h'
        · have : j = k := by omega
          subst this
          rw [hg, hg2]; simp [hw1, hw2]
  · have hk' : k = R.length := by omega
    have : freeB t S R = true := by
      unfold freeB; rw [List.all_eq_true]
      intro j hj; exact hno j (by rw [hk']; exact List.mem_range.1 hj)
    simp [h5, h2, h1, dcore, rows, hlt, hres, this]
    exact Ends.at rfl (Weak.refl _) hv
end Go.Hb
end

section
namespace Go.Hb
open Go Go.Proofs Go.RowKit
attribute [-simp] aC aL aOper aThen aInBlock aIf aPlan aAppend

/-! ### a choice's channels -/
def addc (o : List Nat) (c : Nat) : List Nat := if c ∈ o then o else o ++ [c]
def pre (l : List Int) (m : Int) (k : Nat) : List Nat := (l.take k).foldl (fun o a => addc o (around a m)) []
def choice (l : List Int) (m : Int) : List Nat := if pre l m 5 = [] then [0] else pre l m 5

theorem pre_succ {l : List Int} {m : Int} {k : Nat} (h : k < l.length) : pre l m (k + 1) = addc (pre l m k) (around l[k] m) := by
  unfold pre; rw [List.take_add_one, List.getElem?_eq_getElem h, List.foldl_append]; rfl
theorem addc_len (o : List Nat) (c : Nat) : (addc o c).length ≤ o.length + 1 := by unfold addc; split <;> simp
theorem pre_len (l : List Int) (m : Int) (k : Nat) : (pre l m k).length ≤ k := by
  unfold pre
  have : ∀ (x : List Int) (o : List Nat), (x.foldl (fun o a => addc o (around a m)) o).length ≤ o.length + x.length := by
    intro x
    induction x with
    | nil => intro o; simp
    | cons a x ih => intro o; have := ih (addc o (around a m)); have := addc_len o (around a m); simp; omega
  have := this (l.take k) []
  simp at this; omega
theorem pre_over {l : List Int} {m : Int} {k : Nat} (h : l.length ≤ k) : pre l m k = pre l m l.length := by unfold pre; rw [List.take_of_length_le h, List.take_length]
theorem pre_lt {l : List Int} {m : Int} (hm : 0 < m) (k : Nat) : ∀ c ∈ pre l m k, (c : Int) < m := by
  unfold pre
  have : ∀ (x : List Int) (o : List Nat), (∀ c ∈ o, (c : Int) < m) → ∀ c ∈ (x.foldl (fun o a => addc o (around a m)) o), (c : Int) < m := by
    intro x
    induction x with
    | nil => intro o h; simpa using h
    | cons a x ih =>
      intro o h
      refine ih _ fun c hc => ?_
      have hc : c ∈ addc o (around a m) := hc
      unfold addc at hc
      split at hc
      · exact h c hc
      · rcases List.mem_append.1 hc with h' | h'
        · exact h c h'
        · simp at h'; subst h'; exact around_lt hm
  exact this (l.take k) [] (by simp)
theorem choice_ne (l : List Int) (m : Int) : choice l m ≠ [] := by unfold choice; split <;> simp_all
theorem choice_lt {l : List Int} {m : Int} (hm : 0 < m) : ∀ c ∈ choice l m, (c : Int) < m := by
  unfold choice
  split
  · simp [hm]
  · exact pre_lt hm 5
theorem choice_len (l : List Int) (m : Int) : (choice l m).length ≤ 5 := by
  unfold choice
  split
  · simp
  · exact pre_len l m 5

def IsL (x : LV) (l : List Int) : Prop := x = encI l ∨ (l = [] ∧ (x = .nils ∨ x = .emp 1))

theorem ints_len (cl : List Nat) : (ints cl).length = cl.length := by simp [ints]
theorem ints_mem {cl : List Nat} {c : Nat} : ((c : Int) ∈ ints cl) ↔ c ∈ cl := by
  unfold ints
  constructor
  · intro h
    obtain ⟨a, h1, h2⟩ := List.mem_map.1 h
    have : a = c := by omega
    exact this ▸ h1
  · exact fun h => List.mem_map.2 ⟨c, h, rfl⟩

def grI (v : List Nat) (c : Nat) (l : List Int) : LV := grV 1 v c l.length (l.map (.int .i64))
theorem app_ints {v : List Nat} {c : Nat} {l : List Int} {a : Int} {r : Right} {s : List AObj} (hl : l.length + 1 ≤ 1000000) (h0 : c = 0 → l = []) :
    aAppend Try.prog 25 25 (grI v c l) (.imm 1 1 [.int .i64 a] r) s (grT v c) = some (grI v (c + 1) (l ++ [a]), grT v (c + 1)) := by
  have := aAppend_gr (P := Try.prog) (t := 25) (t2 := 25) (v := v) (c := c) (n := l.length) (m := 1) (cs := l.map (.int .i64)) (ds := [.int .i64 a]) (y := .imm 1 1 [.int .i64 a] r) (s := s) (by simp; rfl) (by simp; rfl) (by simp; rfl) (by simp; rfl) (by simp) (by simp) (by simp) (by simp) (by omega) (by unfold maxLen; omega) (by omega) (fun h => by rw [h0 h]; simp)
  unfold grI
  rw [this]
  simp
theorem grI_weak (v : List Nat) (c : Nat) (l : List Int) (h : c = 0 → l = []) : Weak (grI v c l) (encI l) := grV_weak _ _ _ _ _ fun h0 => by rw [h h0]; simp
theorem grI_under (m : Nat) (v : List Nat) (c : Nat) (l : List Int) : (grI v c l).under m = true := grV_under _ _ _ _ _ _ (ints_under m l)

set_option maxRecDepth 10000 in
set_option maxHeartbeats 2000000 in
theorem choice_p {l : List Int} {m : Int} {x : LV} (hx : IsL x l) (hm : 0 < m) (hm2 : m ≤ 1000000) (hl : ∀ a ∈ l, I64 a) :
    PureC Try.prog 17 [x, .int .i64 m] (encI (ints (choice l m))) := by
  refine .of fun s v => ?_
  refine aCalls_of Try.func17 rfl (by decide) (by simp [Try.ntmps17]) false ?_
  have hres : Try.f17.results = #[.tmp 4] := rfl
  have hlen : aLen Try.prog 25 x = some (.int .i64 l.length) := by
    rcases hx with rfl | ⟨rfl, rfl | rfl⟩ <;> simp [encI]
  simp [Try.ntmps17]
  refine aW_forC false (min 5 l.length) (fun k st => ∃ c, (c = 0 → ints (pre l m k) = []) ∧ st.t 6 = .int .i64 k ∧ st.t 0 = x ∧ st.t 1 = .int .i64 m ∧ st.t 5 = grI v c (ints (pre l m k)) ∧ s = st.s ∧ grT v c = st.v) ?_ ?_
  · exact ⟨0, Nat.zero_le _, 0, by simp [upd_apply, pre, ints, grI, grV, grT]⟩
  rintro k t1 s1 v1 hk ⟨c, h0, h6, hx0, h1, h5, rfl, rfl⟩
  simp only at h6 hx0 h1 h5
  by_cases hlt : k < min 5 l.length
  · have hkl : k < l.length := by omega
    have hk5 : k < 5 := by omega
    have hkl' : (k : Int) < (l.length : Int) := by omega
    have hk5' : (k : Int) < 5 := by omega
    have hw := wrap_succ hk5 (by omega)
    have hxe : x = encI l := by
      rcases hx with h | ⟨h, _⟩
      · exact h
      · subst h; simp at hkl
    have hgl : (ints (pre l m k)).length + 1 ≤ 1000000 := by rw [ints_len]; have := pre_len l m k; omega
    have hps := pre_succ (m := m) hkl
    simp [h6, hx0, h1, h5, -aLen, hlen, hkl, hk5, hkl', hk5']
    subst hxe
    simp [encI, hkl, h1]
    refine aCalls_mono (around_p hm hm2 (hl _ (List.getElem_mem hkl)) _ _) ?_
    rintro _ _ _ ⟨rfl, rfl, rfl⟩
    simp [h6, hx0, h1, h5]
    refine aCalls_mono (aCalls_args (args' := [encI (ints (pre l m k)), .int .i64 (around l[k] m)]) ⟨grI_weak _ _ _ h0, Weak.refl _, trivial⟩ (refIndex_c (by omega))) ?_
    rintro _ _ _ ⟨rfl, rfl, rfl⟩
    have hm := at_mem (l := ints (pre l m k)) (x := (around l[k] m : Int))
    rw [ints_mem] at hm
    by_cases hmem : around l[k] m ∈ pre l m k
    · have h9 : ¬ (at_ (ints (pre l m k)) (around l[k] m) < 0) := by have := hm.2 hmem; omega
      simp [h6, hx0, h1, h5, h9]
      refine hid ⟨hlt, c, ?_, by simp [upd_apply, hw], by simp [upd_apply, hx0, encI], by simp [upd_apply, h1], ?_, rfl, rfl⟩
      · rw [hps]; simpa [addc, hmem] using h0
      · rw [hps]; simp [upd_apply, addc, hmem, h5]
    · have h9 : at_ (ints (pre l m k)) (around l[k] m) < 0 := by
        rcases Int.lt_or_le (at_ (ints (pre l m k)) (around l[k] m)) 0 with h | h
        · exact h
        · exact absurd (hm.1 h) hmem
      simp [h6, hx0, h1, h5, h9, app_ints hgl h0]
      refine hid ⟨hlt, c + 1, by simp, by simp [upd_apply, hw], by simp [upd_apply, hx0, encI], by simp [upd_apply, h1], ?_, rfl, rfl⟩
      rw [hps]; simp [upd_apply, addc, hmem, ints]
  · have hk' : k = min 5 l.length := by omega
    have hpre : pre l m k = pre l m 5 := by
      rcases Nat.le_total l.length 5 with h | h
      · rw [hk', Nat.min_eq_right h, pre_over h]
      · rw [hk', Nat.min_eq_left h]
    have hlen2 : aLen Try.prog 25 (grI v c (ints (pre l m k))) = some (.int .i64 (ints (pre l m k)).length) := by
      cases c with
      | zero => rw [h0 rfl]; simp [grI, grV]
      | succ c => simp [grI, grV]
    have hx5 : ¬ (k : Int) < (l.length : Int) ∨ ((k : Int) < (l.length : Int) ∧ ¬ (k : Int) < 5) := by omega
    by_cases hz : pre l m k = []
    · have hc : choice l m = [0] := by unfold choice; rw [← hpre, if_pos hz]
      rw [hz] at hlen2 h5
      simp only [ints, List.map_nil] at hlen2 h5
      rcases hx5 with h7 | ⟨h7, h8⟩
      · simp [h6, hx0, h1, h5, -aLen, hlen, h7, hlen2, ints, hres, hc]
        exact Ends.same rfl (Weak.imm _ _ _ _) (grT_pre v c)
      · simp [h6, hx0, h1, h5, -aLen, hlen, h7, h8, hlen2, ints, hres, hc]
        exact Ends.same rfl (Weak.imm _ _ _ _) (grT_pre v c)
    · have hc : choice l m = pre l m k := by unfold choice; rw [← hpre, if_neg hz]
      have hz2 : (pre l m k).length ≠ 0 := fun e => hz (List.eq_nil_of_length_eq_zero e)
      rcases hx5 with h7 | ⟨h7, h8⟩
      · simp [h6, hx0, h1, h5, -aLen, hlen, h7, hlen2, hres, hc, ints_len, hz]
        exact Ends.same (grI_under _ _ _ _) (grI_weak _ _ _ h0) (grT_pre v c)
      · simp [h6, hx0, h1, h5, -aLen, hlen, h7, h8, hlen2, hres, hc, ints_len, hz]
        exact Ends.same (grI_under _ _ _ _) (grI_weak _ _ _ h0) (grT_pre v c)
end Go.Hb
end

section
namespace Go.Hb
open Go Go.Proofs Go.RowKit
attribute [-simp] aC aL aOper aThen aInBlock aIf aPlan

def made (n q r p : Nat) : List LV := [.int .i64 0, .nils, .nils, .nils, .ref 1 q 0 n true, .nils, .nils, .nils, .ref 1 r 0 n true, .ref 1 p 0 n true]
def MadePost (n : Nat) (s : List AObj) (v : List Nat) (x : LV) (s' : List AObj) (v' : List Nat) : Prop :=
  ∃ i j k, (0 < i ∧ i < 4 ∧ 0 < j ∧ j < 4 ∧ 0 < k ∧ k < 4 ∧ i ≠ j ∧ i ≠ k ∧ j ≠ k) ∧ x = .agg (made n (s.length + i) (s.length + j) (s.length + k)) ∧
    (∃ a, s ++ [a, .cells (zeros [.nils] n), .cells (zeros [.nils] n), .cells (zeros [.nils] n)] = s') ∧ v = v'

theorem nul_weak (n : Nat) : Weaks (zeros [.nils] n) ((nul n).map encI) := by
  unfold zeros nul
  induction n with
  | zero => trivial
  | succ n ih => exact ⟨Weak.nils _ _ (.inl rfl), ih⟩
theorem zeros_under (m n : Nat) : undersB m (zeros [.nils] n) = true := by
  unfold zeros
  induction n with
  | zero => rfl
  | succ n ih => simpa [List.replicate_succ, undersB, LV.under] using ih
theorem nul_length (n : Nat) : (nul n).length = n := by simp [nul]

theorem made_freeze {P : Program} {f : FuncId} {args : List LV} {n : Nat} (hn : n ≠ 0) {s : List AObj} {v : List Nat} (h : aCalls P f args s v (MadePost n s v)) :
    aCalls P f args s v fun y s' v' => .agg (dcore (nul n) (nul n) (nul n)) = y ∧ s = s' ∧ v = v' := by
  refine aCalls_weak (aCalls_drop (aCalls_frz (aCalls_frz (aCalls_frz (aCalls_mono h ?_)))))
  rintro y s' v' ⟨i, j, k, hd, rfl, ⟨a, rfl⟩, rfl⟩
  have hz : (zeros [.nils] n).length = n := by rw [zeros_length]; simp
  have hne : zeros [.nils] n ≠ [] := fun e => by rw [e] at hz; simp at hz; omega
  have g : ∀ i, 0 < i → i < 4 → ([a, .cells (zeros [.nils] n), .cells (zeros [.nils] n), .cells (zeros [.nils] n)] : List AObj)[i]? = some (.cells (zeros [.nils] n)) := by
    intro i h1 h2
    match i with
    | 1 => rfl
    | 2 => rfl
    | 3 => rfl
  refine ⟨s.length + i, zeros [.nils] n, by rw [get_app]; exact g i (by omega) (by omega), hne, s.length + j, zeros [.nils] n, ?_, hne, s.length + k, zeros [.nils] n, ?_, hne, ?_⟩
  · rw [set_app, get_app, List.getElem?_set_ne (by omega)]; exact g j (by omega) (by omega)
  · rw [set_app, set_app, get_app, List.getElem?_set_ne (by omega), List.getElem?_set_ne (by omega)]; exact g k (by omega) (by omega)
  · have h1 : i ≠ j := by omega
    have h2 : i ≠ k := by omega
    have h3 : j ≠ k := by omega
    have ht : List.take n (zeros [.nils] n) = zeros [.nils] n := List.take_of_length_le (by omega)
    have hf : LV.frz (s.length + k) (zeros [.nils] n) (LV.frz (s.length + j) (zeros [.nils] n) (LV.frz (s.length + i) (zeros [.nils] n) (.agg (made n (s.length + i) (s.length + j) (s.length + k))))) =
        .agg [.int .i64 0, .nils, .nils, .nils, .imm 1 n (zeros [.nils] n) .no, .nils, .nils, .nils, .imm 1 n (zeros [.nils] n) .no, .imm 1 n (zeros [.nils] n) .no] := by
      simp [made, hz, ht, h1, h2, h3, Ne.symm h1, Ne.symm h2, Ne.symm h3]
    rw [hf]
    refine ⟨s, _, by rw [set_app, set_app, set_app], rfl, ?_, fun i o ho => .inl ho, ?_⟩
    · simp only [LV.under, undersB, zeros_under, Bool.and_self]
    · refine ⟨.agg (dcore (nul n) (nul n) (nul n)), s, Weak.agg ?_, WeakS.refl _, rfl, rfl, rfl⟩
      have w1 := Weak.immW (sz := 1) (len := n) (r := .no) (nul_weak n)
      have w2 : Weak (.imm 1 n (zeros [.nils] n) .no) (rows (nul n)) := by unfold rows; rw [nul_length]; exact w1
      exact ⟨Weak.refl _, Weak.refl _, Weak.refl _, Weak.refl _, w2, Weak.refl _, Weak.refl _, Weak.refl _, w2, w2, trivial⟩

set_option maxRecDepth 10000 in
set_option maxHeartbeats 4000000 in
theorem refNew_p {n : Nat} (hn : n ≤ 1000000) (h0 : n ≠ 0) : PureE Try.prog 9 [.int .i64 n] (.agg (dcore (nul n) (nul n) (nul n))) := by
  intro s v
  refine made_freeze h0 ?_
  refine aCalls_of Try.func9 rfl (by decide) (by simp [Try.ntmps9]) false ?_
  have hres : Try.f9.results = #[.cell 2 28] := rfl
  have hm : n ≤ maxLen := by unfold maxLen; omega
  have hm2 : (n : Int) * 24 ≤ 140737488355328 := by omega
  have hm3 : (n : Int) ≤ 140737488355328 := by omega
  have hid : ∀ l, (s ++ l)[s.length]? = l[0]? := fun l => get_app0 s l
  have hset : ∀ l o, (s ++ l).set s.length o = s ++ l.set 0 o := fun l o => set_app0 s l o
  simp [Try.ntmps9]
  refine aW_draw' (.qs [0, 2, 4] (.or (.or (.w 1 [] (.or (.w 3 [] (.w 5 [] (.qs [6] (.w 7 [] .nil)))) (.w 5 [] (.w 3 [] (.qs [6] (.w 7 [] .nil)))))) (.w 3 [] (.or (.w 1 [] (.w 5 [] (.qs [6] (.w 7 [] .nil)))) (.w 5 [] (.w 1 [] (.qs [6] (.w 7 [] .nil))))))) (.w 5 [] (.or (.w 1 [] (.w 3 [] (.qs [6] (.w 7 [] .nil)))) (.w 3 [] (.w 1 [] (.qs [6] (.w 7 [] .nil)))))))) mixed (by kernel_rfl) (by kernel_rfl) ?_
  have fin : ∀ i j k : Nat, (0 < i ∧ i < 4 ∧ 0 < j ∧ j < 4 ∧ 0 < k ∧ k < 4 ∧ i ≠ j ∧ i ≠ k ∧ j ≠ k) → MadePost n s v (.agg [.int .i64 0, .nils, .nils, .nils, .ref 1 (s.length + i) 0 n true, .nils, .nils, .nils, .ref 1 (s.length + j) 0 n true, .ref 1 (s.length + k) 0 n true])
      (s ++ [.cells [.int .i64 0, .nils, .nils, .nils, .ref 1 (s.length + i) 0 n true, .nils, .nils, .nils, .ref 1 (s.length + j) 0 n true, .ref 1 (s.length + k) 0 n true], .cells (zeros [.nils] n), .cells (zeros [.nils] n), .cells (zeros [.nils] n)]) v :=
    fun i j k h => ⟨i, j, k, h, rfl, ⟨_, rfl⟩, rfl⟩
  simp [hm, hm2, hm3, h0, sizes28, place28_4, place28_8, place28_9, hid, hset, hres]
  exact ⟨⟨⟨fin _ _ _ (by omega), fin _ _ _ (by omega)⟩, fin _ _ _ (by omega), fin _ _ _ (by omega)⟩, fin _ _ _ (by omega), fin _ _ _ (by omega)⟩
end Go.Hb
end

