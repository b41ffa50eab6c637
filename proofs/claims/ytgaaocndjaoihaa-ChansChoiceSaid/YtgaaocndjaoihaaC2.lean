/-
  A layer for reasoning about the program's calls, and contracts of its functions (C2). CONDITIONS: none; each theorem bears its own.
-/
import Derived.Test.YtgaaocndjaoihaaC1
import Derived.Test.YtgaaocndjaoihaaL5
set_option linter.unusedVariables false
set_option linter.unusedSimpArgs false
section
namespace Go.Hb
open Go Go.Proofs Go.RowKit

def nul (n : Nat) : Rows := List.replicate n []
theorem empt_eq (n : Nat) : empt n = (nul n).map encI := by simp [empt, nul]

/-- A world with a new state of channels. -/
def anew (s : List AObj) (q r p n : Nat) : List AObj := s ++ [.cells (core q r p n), .cells (empt n), .cells (empt n), .cells (empt n), .cells (core q r p n)]

theorem anew_get {s : List AObj} {q r p n i : Nat} (h : s.length < i) (h2 : i < s.length + 4) : (anew s q r p n)[i]? = some (.cells ((nul n).map encI)) := by
  unfold anew
  rw [List.getElem?_append_right (by omega), ← empt_eq]
  have : i - s.length = 1 ∨ i - s.length = 2 ∨ i - s.length = 3 := by omega
  rcases this with e | e | e <;> rw [e] <;> rfl

theorem anew_base {s : List AObj} {q r p n : Nat} (h : fresh s q r p) (hn : n ≤ 1000000) : Base (anew s q r p n) (s.length + 4) q r p n := by
  obtain ⟨h1, h2, h3, h4, h5, h6, h7, h8, h9⟩ := h
  have hl : (anew s q r p n).length = s.length + 5 := by simp [anew]
  exact ⟨by unfold anew; rw [get_app]; rfl, by omega, by omega, by omega, by omega, by omega, by omega, h7, h8, h9, hn⟩

theorem anew_put {s : List AObj} {q r p n : Nat} (h : fresh s q r p) : put (anew s q r p n) q r p (nul n) (nul n) (nul n) = anew s q r p n := by
  obtain ⟨h1, h2, h3, h4, h5, h6, h7, h8, h9⟩ := h
  unfold put
  rw [set_same (anew_get h1 h2), set_same (anew_get h3 h4), set_same (anew_get h5 h6)]

theorem set_beyond (s l : List AObj) (i : Nat) (o : AObj) (h : s.length ≤ i) : (s ++ l).set i o = s ++ l.set (i - s.length) o := by
  rw [List.set_append_right _ _ h]

theorem put_beyond {s : List AObj} {q r p n : Nat} (h : fresh s q r p) (B S R : Rows) : ∃ J, put (anew s q r p n) q r p B S R = s ++ J := by
  obtain ⟨h1, h2, h3, h4, h5, h6, h7, h8, h9⟩ := h
  unfold put anew
  rw [set_beyond _ _ _ _ (by omega), set_beyond _ _ _ _ (by omega), set_beyond _ _ _ _ (by omega)]
  exact ⟨_, rfl⟩

theorem add5 (s : List AObj) (a b c d e : AObj) : s ++ [a, b, c, d] ++ [e] = s ++ [a, b, c, d, e] := by simp

attribute [-simp] aC aL aOper aThen aInBlock aIf aPlan

set_option maxRecDepth 10000 in
set_option maxHeartbeats 4000000 in
theorem lives_c {s : List AObj} {v : List Nat} :
    aCalls Try.prog 13 [] s v fun y s' v' => y = .bool true ∧ s = s' ∧ v <+: v' := by
  refine aCalls_drop ?_
  refine aCalls_of Try.func13 rfl (by decide) (by simp) false ?_
  simp [Try.ntmps13]
  refine aCalls_mono (by simpa using new_c (n := 1) (by omega) (by omega)) ?_
  rintro _ _ _ ⟨q, r, p, hf, rfl, rfl, rfl⟩
  have H : Base (anew s q r p 1) (s.length + 4) q r p 1 := anew_base hf (by omega)
  have hid : ∀ l : List AObj, ∀ k, (s ++ l)[s.length + k]? = l[k]? := fun l k => get_app s l k
  have hset : ∀ l o k, (s ++ l).set (s.length + k) o = s ++ l.set k o := fun l o k => set_app s l k o
  simp [core, hid, hset]
  have e0 : s ++ [.cells (core q r p 1), .cells (empt 1), .cells (empt 1), .cells (empt 1), .cells (core q r p 1)] = put (anew s q r p 1) q r p [[]] [[]] [[]] := (anew_put hf).symm
  simp only [core] at e0
  rw [e0]
  refine aCalls_mono (by simpa using recv_wait (ch := 0) (t := 5) H rfl rfl (by simp) rfl rfl) ?_
  rintro _ _ _ ⟨rfl, rfl, hv⟩
  simp [wait]
  refine aCalls_mono (by simpa using send_meet (ch := 0) (room := 0) (t := 6) (x := 9) (f := 5) (ρ := []) H rfl (by simp) rfl) ?_
  rintro _ _ _ ⟨rfl, rfl, rfl⟩
  simp
  obtain ⟨J, hJ⟩ := put_beyond hf (n := 1) [[]] [[]] ([[5]].map (del 5))
  exact ⟨s, ⟨J, hJ⟩, rfl, by simp [LV.under], fun i o h => .inl h, rfl, hv⟩
end Go.Hb
end

section
namespace Go.Hb
open Go Go.Proofs Go.RowKit
attribute [-simp] aC aL aOper aThen aInBlock aIf aPlan

def rows (B : Rows) : LV := .imm 1 B.length (B.map encI) .no
/-- The document's state. -/
def dcore (B S R : Rows) : List LV := [.int .i64 0, .nils, .nils, .nils, rows B, .nils, .nils, .nils, rows S, rows R]

def at_ (l : List Int) (x : Int) : Int := idx (fun y => decide (y = x)) l

set_option maxRecDepth 10000 in
set_option maxHeartbeats 2000000 in
theorem refIndex_c {l : List Int} {x : Int} {s : List AObj} {v : List Nat} (hb : l.length ≤ 1000000) :
    aCalls Try.prog 22 [encI l, .int .i64 x] s v fun y s' v' => y = .int .i64 (at_ l x) ∧ s = s' ∧ v = v' := by
  refine aCalls_of Try.func22 rfl (by decide) (by simp [Try.ntmps22]) false ?_
  have hres : Try.f22.results = #[.tmp 4] := rfl
  simp [Try.ntmps22, encI]
  refine aW_loopC false (fun st => ∃ k : Nat, k ≤ l.length ∧ (∀ j (hj : j < l.length), j < k → decide (l[j] = x) = false) ∧ st.t 5 = .int .i64 k ∧ st.t 0 = encI l ∧ st.t 1 = .int .i64 x ∧ s = st.s ∧ v = st.v) (fun st => l.length - numOf (st.t 5)) ?_ ?_
  · exact ⟨0, by simp [upd_apply, encI]⟩
  rintro t1 s1 v1 ⟨k, hk, hno, h5, h0, h1, rfl, rfl⟩
  simp only at h5 h0 h1
  by_cases hlt : k < l.length
  · have hlt' : (k : Int) < (l.length : Int) := by omega
    have hw := wrap_succ hlt hb
    by_cases he : l[k] = x
    · simp [h5, h0, h1, encI, hlt, he, hres]
      exact (idx_at hlt (by simpa using he) fun j hj => hno j (by omega) hj).symm
    · simp [h5, h0, h1, encI, hlt, he, hw, numOf]
      refine ⟨⟨k + 1, by omega, fun j hj hj2 => ?_, rfl⟩, by omega⟩
      by_cases e : j = k
      · subst e; simpa using he
      · simpa using hno j hj (by omega)
  · simp [h5, h0, encI, hlt, hres]
    exact (idx_none fun j hj => hno j hj (by omega)).symm

set_option maxRecDepth 10000 in
set_option maxHeartbeats 2000000 in
theorem sameInts_c {a b : List Int} {s : List AObj} {v : List Nat} (hb : a.length ≤ 1000000) :
    aCalls Try.prog 24 [encI a, encI b] s v fun y s' v' => y = .bool (decide (a = b)) ∧ s = s' ∧ v = v' := by
  refine aCalls_of Try.func24 rfl (by decide) (by simp [Try.ntmps24]) false ?_
  have hres : Try.f24.results = #[.tmp 4] := rfl
  by_cases hl : a.length = b.length
  · have hl' : (a.length : Int) = (b.length : Int) := by omega
    simp [Try.ntmps24, encI, hl]
    refine aW_loopC false (fun st => ∃ k : Nat, k ≤ a.length ∧ (∀ j, j < k → a[j]? = b[j]?) ∧ st.t 5 = .int .i64 k ∧ st.t 0 = encI a ∧ st.t 1 = encI b ∧ s = st.s ∧ v = st.v) (fun st => a.length - numOf (st.t 5)) ?_ ?_
    · exact ⟨0, by simp [upd_apply, encI, hl]⟩
    rintro t1 s1 v1 ⟨k, hk, hsm, h5, h0, h1, rfl, rfl⟩
    simp only at h5 h0 h1
    by_cases hlt : k < a.length
    · have hlt' : (k : Int) < (a.length : Int) := by omega
      have hltb : k < b.length := by omega
      have hw := wrap_succ hlt hb
      simp [h5, h0, encI, hlt]
      refine aW_draw' (.qs [0, 1, 2, 3, 4, 5, 6, 7, 8] .nil) mixed (by kernel_rfl) (by kernel_rfl) ?_
      by_cases he : a[k] = b[k]
      · simp [h5, h0, h1, encI, hlt, hltb, he, hw, numOf]
        refine ⟨⟨k + 1, by omega, fun j hj => ?_, rfl⟩, by omega⟩
        by_cases e : j = k
        · subst e; rw [List.getElem?_eq_getElem hlt, List.getElem?_eq_getElem hltb, he]
        · exact hsm j (by omega)
      · simp [h5, h0, h1, encI, hlt, hltb, he, hres]
        intro e; subst e; exact he rfl
    · simp [h5, h0, encI, hlt, hres]
      apply List.ext_getElem?
      intro j
      by_cases hj : j < k
      · exact hsm j hj
      · rw [List.getElem?_eq_none (by omega), List.getElem?_eq_none (by omega)]
  · have hl' : ¬ (a.length : Int) = (b.length : Int) := by omega
    have hne : a ≠ b := fun e => hl (by rw [e])
    simp [Try.ntmps24, encI, hl', hres, hne]
end Go.Hb
end

section
namespace Go.Hb
open Go Go.Proofs Go.RowKit
attribute [-simp] aC aL aOper aThen aInBlock aIf aPlan

set_option maxRecDepth 10000 in
set_option maxHeartbeats 2000000 in
theorem sameLists_c {q : Nat} {A B : Rows} {s : List AObj} {v : List Nat} (hq : s[q]? = some (.cells (A.map encI))) (hb : A.length ≤ 1000000) (hr : ∀ x ∈ A, x.length ≤ 1000000) :
    aCalls Try.prog 27 [.ref 1 q 0 A.length true, rows B] s v fun y s' v' => y = .bool (decide (A = B)) ∧ s = s' ∧ v = v' := by
  refine aCalls_of Try.func27 rfl (by decide) (by simp [Try.ntmps27]) false ?_
  have hres : Try.f27.results = #[.tmp 4] := rfl
  by_cases hl : A.length = B.length
  · have hl' : (A.length : Int) = (B.length : Int) := by omega
    simp [Try.ntmps27, rows, hl']
    refine aW_loopC false (fun st => ∃ k : Nat, k ≤ A.length ∧ (∀ j, j < k → A[j]? = B[j]?) ∧ st.t 5 = .int .i64 k ∧ st.t 0 = .ref 1 q 0 A.length true ∧ st.t 1 = rows B ∧ s = st.s ∧ v = st.v) (fun st => A.length - numOf (st.t 5)) ?_ ?_
    · exact ⟨0, by simp [upd_apply, rows]⟩
    rintro t1 s1 v1 ⟨k, hk, hsm, h5, h0, h1, rfl, rfl⟩
    simp only at h5 h0 h1
    by_cases hlt : k < A.length
    · have hlt' : (k : Int) < (A.length : Int) := by omega
      have hltb : k < B.length := by omega
      have hw := wrap_succ hlt hb
      have hA : (A.map encI)[k]? = some (encI A[k]) := by simp [hlt]
      have hB : ((B.map encI).drop k)[0]? = some (encI B[k]) := by simp [hltb]
      simp [h5, h0, hlt]
      refine aW_draw' (.qs [0, 1, 2, 3, 4, 5, 6, 7] (.w 8 [] (.qs [9] .nil))) mixed (by kernel_rfl) (by kernel_rfl) ?_
      simp [h5, h0, h1, rows, hlt, hltb, hq]
      refine aCalls_mono (sameInts_c (hr _ (List.getElem_mem hlt))) ?_
      rintro _ _ _ ⟨rfl, rfl, rfl⟩
      by_cases he : A[k] = B[k]
      · simp [h5, h0, h1, he, hw, numOf, rows]
        refine ⟨⟨k + 1, by omega, fun j hj => ?_, rfl⟩, by omega⟩
        by_cases e : j = k
        · subst e; rw [List.getElem?_eq_getElem hlt, List.getElem?_eq_getElem hltb, he]
        · exact hsm j (by omega)
      · simp [he, hres]
        intro e; subst e; exact he rfl
    · simp [h5, h0, hlt, hres]
      apply List.ext_getElem?
      intro j
      by_cases hj : j < k
      · exact hsm j hj
      · rw [List.getElem?_eq_none (by omega), List.getElem?_eq_none (by omega)]
  · have hl' : ¬ (A.length : Int) = (B.length : Int) := by omega
    have hne : A ≠ B := fun e => hl (by rw [e])
    simp [Try.ntmps27, rows, hl', hres, hne]
end Go.Hb
end

section
namespace Go.Hb
open Go Go.Proofs Go.RowKit
attribute [-simp] aC aL aOper aThen aInBlock aIf aPlan

section
variable {s : List AObj} {id q r p n ch : Nat} {B S R B' S' R' : Rows} {b σ ρ : List Int} {v : List Nat}

set_option maxRecDepth 10000 in
set_option maxHeartbeats 2000000 in
theorem same_c (H : Base s id q r p n) (hB : B.length = n) (hS : S.length = n) (hR : R.length = n) (bB : ∀ x ∈ B, x.length ≤ 1000000) (bS : ∀ x ∈ S, x.length ≤ 1000000) (bR : ∀ x ∈ R, x.length ≤ 1000000) :
    aCalls Try.prog 10 [.agg (core q r p n), .agg (dcore B' S' R')] (put s q r p B S R) v fun y s' v' => y = .bool (decide (B = B') && (decide (S = S') && decide (R = R'))) ∧ put s q r p B S R = s' ∧ v = v' := by
  refine aCalls_drop ?_
  refine aCalls_of Try.func10 rfl (by decide) (by simp [Try.ntmps10]) false ?_
  have hres : Try.f10.results = #[.tmp 4] := rfl
  have hn := H.hn
  have hw0 : ∀ l, (put s q r p B S R ++ l)[s.length]? = l[0]? := fun l => get_at0 (by simp)
  have hw1 : ∀ l k, (put s q r p B S R ++ l)[s.length + k]? = l[k]? := fun l k => get_at (by simp) k
  have gq : ∀ l, (put s q r p B S R ++ l)[q]? = some (.cells (B.map encI)) := fun l => by rw [get_old (by simpa using H.hq), H.gq]
  have gr : ∀ l, (put s q r p B S R ++ l)[r]? = some (.cells (S.map encI)) := fun l => by rw [get_old (by simpa using H.hr), H.gr]
  have gp : ∀ l, (put s q r p B S R ++ l)[p]? = some (.cells (R.map encI)) := fun l => by rw [get_old (by simpa using H.hp), H.gp]
  simp [Try.ntmps10, core, dcore, hw0, hw1]
  have c1 := sameLists_c (q := q) (A := B) (B := B') (v := v) (gq [.cells (core q r p n), .cells (dcore B' S' R')]) (by omega) bB
  rw [hB] at c1
  have c2 := sameLists_c (q := r) (A := S) (B := S') (v := v) (gr [.cells (core q r p n), .cells (dcore B' S' R')]) (by omega) bS
  rw [hS] at c2
  have c3 := sameLists_c (q := p) (A := R) (B := R') (v := v) (gp [.cells (core q r p n), .cells (dcore B' S' R')]) (by omega) bR
  rw [hR] at c3
  refine aCalls_mono (by simpa [core, dcore] using c1) ?_
  rintro _ _ _ ⟨rfl, rfl, rfl⟩
  by_cases e1 : B = B'
  · have d1 : (B = B') = True := eq_true e1
    simp only [d1]
    simp [core, dcore, hw0, hw1]
    refine aCalls_mono (by simpa [core, dcore] using c2) ?_
    rintro _ _ _ ⟨rfl, rfl, rfl⟩
    by_cases e2 : S = S'
    · have d2 : (S = S') = True := eq_true e2
      simp only [d2]
      simp [core, dcore, hw0, hw1]
      refine aCalls_mono (by simpa [core, dcore] using c3) ?_
      rintro _ _ _ ⟨rfl, rfl, rfl⟩
      simp [hres]
      exact ⟨_, ⟨_, rfl⟩, by simp, by simp [LV.under], fun i o h => .inl h, by simp [e1, e2], rfl⟩
    · simp [e2, hres]
      exact ⟨_, ⟨_, rfl⟩, by simp, by simp [LV.under], fun i o h => .inl h, rfl⟩
  · simp [e1, hres]
    exact ⟨_, ⟨_, rfl⟩, by simp, by simp [LV.under], fun i o h => .inl h, rfl⟩
end
end Go.Hb
end

section
namespace Go.Hb
open Go Go.Proofs Go.RowKit
attribute [-simp] aC aL aOper aThen aInBlock aIf aPlan

/-! ### rows that are one's own: each with its right -/
def rowR (l : List Int) (r : Right) : LV := .imm 1 l.length (l.map (.int .i64)) r
theorem rowR_weak (l : List Int) (r : Right) : Weak (rowR l r) (encI l) := Weak.imm _ _ _ _

def tipOf : Right → Option Nat
  | .tip g _ => some g
  | _ => none

/-- These rights hold, each of its own tip, all behind m. -/
structure Good (m : Nat) (v : List Nat) (rs : List Right) : Prop where
  each : ∀ r ∈ rs, r = .full ∨ ∃ g e, r = .tip g e ∧ v[g]? = some e ∧ m ≤ g
  apart : (rs.filterMap tipOf).Nodup

theorem Good.nil (m : Nat) (v : List Nat) : Good m v [] := ⟨by simp, by simp⟩
theorem Good.full {m : Nat} {v : List Nat} {rs : List Right} (h : Good m v rs) : Good m v (rs ++ [.full]) := ⟨fun r hr => by
  rcases List.mem_append.1 hr with h' | h'
  · exact h.each r h'
  · left; simpa using h', by rw [List.filterMap_append]; simpa [tipOf, List.filterMap_cons] using h.apart⟩
theorem Good.new {m : Nat} {v : List Nat} {rs : List Right} (h : Good m v rs) (hm : m ≤ v.length) : Good m (v ++ [0]) (rs ++ [.tip v.length 0]) := ⟨fun r hr => by
  rcases List.mem_append.1 hr with h' | h'
  · rcases h.each r h' with h1 | ⟨g, e, h1, h2, h3⟩
    · exact .inl h1
    · exact .inr ⟨g, e, h1, by rw [List.getElem?_append_left (List.getElem?_eq_some_iff.1 h2).1]; exact h2, h3⟩
  · right; exact ⟨v.length, 0, by simpa using h', by simp, hm⟩, by
  rw [List.filterMap_append]
  refine List.nodup_append.2 ⟨h.apart, by simp [tipOf, List.filterMap_cons], fun a ha b hb => ?_⟩
  simp [tipOf, List.filterMap_cons] at hb; subst hb
  obtain ⟨r, hr, ht⟩ := List.mem_filterMap.1 ha
  rcases h.each r hr with h1 | ⟨g, e, h1, h2, h3⟩
  · subst h1; simp [tipOf] at ht
  · subst h1; simp [tipOf] at ht; subst ht
    exact Nat.ne_of_lt (List.getElem?_eq_some_iff.1 h2).1⟩

/-- What the tip at a place becomes when its row grows. -/
def bump (v : List Nat) : Right → Right × List Nat
  | .tip g e => (.tip g (e + 1), v.set g (e + 1))
  | _ => (.tip v.length 0, v ++ [0])

theorem Good.grow {m : Nat} {v : List Nat} {rs : List Right} (h : Good m v rs) {k : Nat} {r : Right} (hk : rs[k]? = some r) {n : Nat} (hn : n ≠ 0) : grow n r v = some (bump v r) := by
  unfold Hb.grow
  rw [if_neg hn]
  rcases h.each r (List.mem_of_getElem? hk) with h1 | ⟨g, e, h1, h2, h3⟩
  · subst h1; rfl
  · subst h1; simp [bump, h2]

theorem Good.bump {m : Nat} {v : List Nat} {rs : List Right} (h : Good m v rs) (hm : m ≤ v.length) {k : Nat} {r : Right} (hk : rs[k]? = some r) : Good m (bump v r).2 (rs.set k (bump v r).1) := by
  have hkl := (List.getElem?_eq_some_iff.1 hk).1
  have hmem : ∀ r' ∈ rs.set k (Hb.bump v r).1, r' = (Hb.bump v r).1 ∨ ∃ j, j ≠ k ∧ rs[j]? = some r' := fun r' hr' => by
    obtain ⟨j, hj⟩ := List.getElem?_of_mem hr'
    by_cases e : k = j
    · subst e; rw [List.getElem?_set_self hkl] at hj; left; simpa using hj.symm
    · rw [List.getElem?_set_ne e] at hj; exact .inr ⟨j, Ne.symm e, hj⟩
  have hsplit : rs = rs.take k ++ r :: rs.drop (k + 1) := by
    have e1 := (List.getElem?_eq_some_iff.1 hk).2
    rw [← e1, List.getElem_cons_drop, List.take_append_drop]
  have hset : rs.set k (Hb.bump v r).1 = rs.take k ++ (Hb.bump v r).1 :: rs.drop (k + 1) := List.set_eq_take_append_cons_drop .. |>.trans (by rw [if_pos hkl])
  have hap := h.apart
  rcases h.each r (List.mem_of_getElem? hk) with h1 | ⟨g, e, h1, h2, h3⟩
  · -- a new tip
    subst h1
    refine ⟨fun r' hr' => ?_, ?_⟩
    · rcases hmem r' hr' with h' | ⟨j, _, hj⟩
      · right; exact ⟨v.length, 0, h', by simp [Hb.bump], hm⟩
      · rcases h.each r' (List.mem_of_getElem? hj) with h4 | ⟨g, e, h4, h5, h6⟩
        · exact .inl h4
        · exact .inr ⟨g, e, h4, by simp only [Hb.bump]; rw [List.getElem?_append_left (List.getElem?_eq_some_iff.1 h5).1]; exact h5, h6⟩
    · rw [hset]
      have hlt : ∀ a ∈ rs.filterMap tipOf, a < v.length := fun a ha => by
        obtain ⟨r', hr, ht⟩ := List.mem_filterMap.1 ha
        rcases h.each r' hr with h4 | ⟨g, e, h4, h5, h6⟩
        · subst h4; simp [tipOf] at ht
        · subst h4; simp [tipOf] at ht; subst ht; exact (List.getElem?_eq_some_iff.1 h5).1
      have hperm : ((rs.take k ++ (Hb.bump v .full).1 :: rs.drop (k + 1)).filterMap tipOf).Perm (v.length :: rs.filterMap tipOf) := by
        rw [hsplit]
        simp only [List.filterMap_append, List.filterMap_cons, tipOf, Hb.bump]
        rw [← hsplit]
        exact List.perm_middle
      refine hperm.nodup_iff.2 (List.nodup_cons.2 ⟨fun hh => Nat.lt_irrefl _ (hlt _ hh), hap⟩)
  · subst h1
    have hglt := (List.getElem?_eq_some_iff.1 h2).1
    have hfm : (rs.set k (Hb.bump v (.tip g e)).1).filterMap tipOf = rs.filterMap tipOf := by
      rw [hset]
      conv => rhs; rw [hsplit]
      simp [List.filterMap_append, tipOf, Hb.bump]
    refine ⟨fun r' hr' => ?_, by rw [hfm]; exact hap⟩
    rcases hmem r' hr' with h' | ⟨j, hjk, hj⟩
    · right; exact ⟨g, e + 1, h', by simp [Hb.bump, hglt], h3⟩
    · rcases h.each r' (List.mem_of_getElem? hj) with h4 | ⟨g', e', h4, h5, h6⟩
      · exact .inl h4
      · refine .inr ⟨g', e', h4, ?_, h6⟩
        subst h4
        have hne : g ≠ g' := by
          intro e0; subst e0
          have hnd := hap
          rw [hsplit, List.filterMap_append, List.filterMap_cons] at hnd
          simp only [tipOf] at hnd
          have hmemj : (.tip g e' : Right) ∈ rs.take k ∨ (.tip g e' : Right) ∈ rs.drop (k + 1) := by
            rcases Nat.lt_or_gt_of_ne hjk with hlt | hgt
            · left; exact List.mem_of_getElem? (i := j) (by rw [List.getElem?_take_of_lt hlt]; exact hj)
            · right; exact List.mem_of_getElem? (i := j - (k + 1)) (by rw [List.getElem?_drop, show k + 1 + (j - (k + 1)) = j by omega]; exact hj)
          rw [List.nodup_append] at hnd
          rcases hmemj with hm' | hm'
          · exact hnd.2.2 g (List.mem_filterMap.2 ⟨_, hm', rfl⟩) g (by simp) rfl
          · exact (List.nodup_cons.1 hnd.2.1).1 (List.mem_filterMap.2 ⟨_, hm', rfl⟩)
        simp only [Hb.bump]
        rw [List.getElem?_set_ne hne]; exact h5

theorem bump_pre {m : Nat} {v0 v : List Nat} {rs : List Right} (h : Good m v rs) (hm : v0.length = m) (hp : v0 <+: v) {k : Nat} {r : Right} (hk : rs[k]? = some r) : v0 <+: (bump v r).2 := by
  obtain ⟨t, rfl⟩ := hp
  rcases h.each r (List.mem_of_getElem? hk) with h1 | ⟨g, e, h1, h2, h3⟩
  · subst h1; simp [Hb.bump]
  · subst h1
    simp only [Hb.bump]
    rw [List.set_append_right _ _ (by omega)]
    exact List.prefix_append _ _

/-- The right of a list's copy. -/
def cright (g : Nat) (l : List Int) : Right := if l = [] then .full else .tip g 0
def ctips (v : List Nat) (l : List Int) : List Nat := if l = [] then v else v ++ [0]
theorem Good.copy {m : Nat} {v : List Nat} {rs : List Right} (h : Good m v rs) (hm : m ≤ v.length) (l : List Int) : Good m (ctips v l) (rs ++ [cright v.length l]) := by
  unfold ctips cright
  split
  · exact h.full
  · exact h.new hm
theorem ctips_pre (v : List Nat) (l : List Int) : v <+: ctips v l := by unfold ctips; split <;> simp

set_option maxRecDepth 10000 in
set_option maxHeartbeats 2000000 in
theorem ints_c {l : List Int} {s : List AObj} {v : List Nat} (hb : l.length ≤ 1000000) :
    aCalls Try.prog 49 [encI l] s v fun y s' v' => y = rowR l (cright v.length l) ∧ s = s' ∧ v' = ctips v l := by
  refine aCalls_of Try.func49 rfl (by decide) (by simp [Try.ntmps49]) false ?_
  have hres : Try.f49.results = #[.tmp 2] := rfl
  have h1 : l.length ≤ maxLen := by unfold maxLen; omega
  have h2 : l.length * 8 ≤ 140737488355328 := by omega
  by_cases hl : l = []
  · subst hl
    simp [Try.ntmps49, encI, hres, rowR, cright, ctips, maxLen]
  · simp [Try.ntmps49, encI, hl, hres, rowR, cright, ctips, h1, h2]
end Go.Hb
end

section
namespace Go.Hb
open Go Go.Proofs Go.RowKit
attribute [-simp] aC aL aOper aThen aInBlock aIf aPlan

def dead (k : Nat) : List AObj := List.replicate k (.cells [])
@[simp] theorem dead_length (k : Nat) : (dead k).length = k := by simp [dead]
theorem dead_succ (k : Nat) : dead (k + 1) = dead k ++ [.cells []] := by simp [dead, List.replicate_succ']
def outLV (m : Nat) : Nat → LV
  | 0 => .nils
  | k + 1 => .ref 1 (m + k) 0 (k + 1) false
def outS (s : List AObj) (cs : List LV) : Nat → List AObj
  | 0 => s
  | k + 1 => s ++ dead k ++ [.cells cs]
def rowsR (A : Rows) (rs : List Right) : List LV := List.zipWith rowR A rs
theorem rowsR_snoc {A : Rows} {rs : List Right} {l : List Int} {r : Right} (h : A.length = rs.length) : rowsR (A ++ [l]) (rs ++ [r]) = rowsR A rs ++ [rowR l r] := by
  unfold rowsR; rw [List.zipWith_append h]; rfl

theorem outS_get (s : List AObj) (cs : List LV) (k : Nat) : (s ++ dead k ++ [AObj.cells cs])[s.length + k]? = some (.cells cs) := by
  rw [List.getElem?_append_right (by simp)]; simp
theorem outS_set (s : List AObj) (cs : List LV) (k : Nat) : (s ++ dead k ++ [AObj.cells cs]).set (s.length + k) (.cells []) = s ++ dead (k + 1) := by
  rw [List.set_append_right _ _ (by simp)]; simp [dead_succ]

set_option maxRecDepth 10000 in
set_option maxHeartbeats 2000000 in
theorem lists_c {A : Rows} {s : List AObj} {v : List Nat} {m : Nat} {rs0 : List Right} (hb : A.length ≤ 1000000) (hr : ∀ x ∈ A, x.length ≤ 1000000) (hm : m ≤ v.length) (hG : Good m v rs0) :
    aCalls Try.prog 48 [rows A] s v fun y s' v' => ∃ rs, rs.length = A.length ∧ y = outLV s.length A.length ∧ outS s (rowsR A rs) A.length = s' ∧ Good m v' (rs0 ++ rs) ∧ v <+: v' := by
  refine aCalls_of Try.func48 rfl (by decide) (by simp [Try.ntmps48]) true ?_
  have hres : Try.f48.results = #[.tmp 2] := rfl
  simp [Try.ntmps48, rows]
  refine aW_forC true A.length (fun k st => ∃ rs : List Right, rs.length = k ∧ st.t 3 = outLV s.length k ∧ st.t 4 = .int .i64 k ∧ st.t 0 = rows A ∧ outS s (rowsR (A.take k) rs) k = st.s ∧ Good m st.v (rs0 ++ rs) ∧ v <+: st.v) ?_ ?_
  · exact ⟨0, Nat.zero_le _, [], by simp [upd_apply, rows, outLV, outS, hG]⟩
  rintro k t1 s1 v1 hk ⟨rs, hrs, h3, h4, h0, rfl, hG1, hp⟩
  simp only at h3 h4 h0 hG1 hp
  have hm1 : m ≤ v1.length := Nat.le_trans hm hp.length_le
  by_cases hlt : k < A.length
  · have hlt' : (k : Int) < (A.length : Int) := by omega
    have hw := wrap_succ hlt hb
    have hA : ((A.map encI).drop k)[0]? = some (encI A[k]) := by simp [hlt]
    simp [h3, h4, h0, rows, hlt]
    refine aCalls_mono (ints_c (hr _ (List.getElem_mem hlt))) ?_
    rintro _ _ _ ⟨rfl, rfl, rfl⟩
    have htake : A.take (k + 1) = A.take k ++ [A[k]] := by rw [List.take_add_one]; simp [hlt]
    have hlen : (A.take k).length = rs.length := by simp; omega
    have h1 : k + 1 ≤ maxLen := by unfold maxLen; omega
    have h2 : (k + 1) * 24 ≤ 140737488355328 := by omega
    have hzl : (rowsR (A.take k) rs).length = k := by simp [rowsR]; omega
    cases k with
    | zero =>
      simp [h3, h4, h0, outLV, outS, rows, rowR, maxLen]
      refine hid ⟨hlt, rs ++ [cright v1.length A[0]], by simpa using hrs, by simp [outLV, upd_apply], by simp [upd_apply], by simp [upd_apply, h0, rows], ?_, ?_, hp.trans (ctips_pre _ _)⟩
      · have : rs = [] := by simpa using hrs
        subst this
        simp [outS, htake, rowsR, rowR, dead]
      · rw [← List.append_assoc]; exact hG1.copy hm1 _
    | succ j =>
      have hne : rowsR (A.take (j + 1)) rs ≠ [] := by intro e; rw [e] at hzl; simp at hzl
      have g1 := outS_get s (rowsR (A.take (j + 1)) rs) j
      have g2 := outS_set s (rowsR (A.take (j + 1)) rs) j
      simp only [List.append_assoc] at g1 g2
      have htk : (rowsR (A.take (j + 1)) rs).take (j + 1) = rowsR (A.take (j + 1)) rs := List.take_of_length_le (by omega)
      have hw' : IntKind.i64.wrap ((j : Int) + 1 + 1) = (j : Int) + 1 + 1 := by simpa using hw
      simp [h3, h4, h0, outLV, outS, rows, rowR, g1, g2, hzl, h1, h2, hne, htk]
      refine hid ⟨hlt, rs ++ [cright v1.length A[j + 1]], by simp; omega, by simp [outLV, upd_apply], by simp [upd_apply, hw'], by simp [upd_apply, h0, rows], ?_, ?_, hp.trans (ctips_pre _ _)⟩
      · rw [htake, rowsR_snoc hlen]
        simp [outS, rowR]
      · show Good m (ctips v1 _) _
        rw [← List.append_assoc]; exact hG1.copy hm1 _
  · have hk' : k = A.length := by omega
    subst hk'
    simp only [List.take_length] at *
    simp [h3, h4, h0, rows, hres]
    exact ⟨rs, hrs, rfl, hG1, hp⟩
end Go.Hb
end

section
namespace Go.Hb
open Go Go.Proofs Go.RowKit
attribute [-simp] aC aL aOper aThen aInBlock aIf aPlan

theorem lists_ne {A : Rows} {s : List AObj} {v : List Nat} {m : Nat} {rs0 : List Right} (h0 : A ≠ []) (hb : A.length ≤ 1000000) (hr : ∀ x ∈ A, x.length ≤ 1000000) (hm : m ≤ v.length) (hG : Good m v rs0) :
    aCalls Try.prog 48 [rows A] s v fun y s' v' => ∃ rs J j, rs.length = A.length ∧ y = .ref 1 (s.length + j) 0 A.length false ∧ s ++ J = s' ∧ J[j]? = some (.cells (rowsR A rs)) ∧ Good m v' (rs0 ++ rs) ∧ v <+: v' := by
  refine aCalls_mono (lists_c hb hr hm hG) ?_
  rintro y s' v' ⟨rs, h1, h2, h3, h4, h5⟩
  obtain ⟨k, hk⟩ : ∃ k, A.length = k + 1 := ⟨A.length - 1, by have : A.length ≠ 0 := (fun e => h0 (List.eq_nil_of_length_eq_zero e)); omega⟩
  rw [hk] at h2 h3
  refine ⟨rs, dead k ++ [.cells (rowsR A rs)], k, h1, by rw [h2, hk]; rfl, by rw [← h3]; simp [outS], ?_, h4, h5⟩
  rw [List.getElem?_append_right (by simp)]; simp

/-- The document's state, its rows its own. -/
def ocore (q r p n : Nat) : List LV := [.int .i64 0, .nils, .nils, .nils, .ref 1 q 0 n false, .nils, .nils, .nils, .ref 1 r 0 n false, .ref 1 p 0 n false]

def OwnPost (n : Nat) (B S R : Rows) (s : List AObj) (v : List Nat) (y : LV) (s' : List AObj) (v' : List Nat) : Prop :=
  ∃ J q r p rB rS rR, y = .agg (ocore (s.length + q) (s.length + r) (s.length + p) n) ∧ s ++ J = s' ∧ q ≠ r ∧ q ≠ p ∧ r ≠ p ∧
      J[q]? = some (.cells (rowsR B rB)) ∧ J[r]? = some (.cells (rowsR S rS)) ∧ J[p]? = some (.cells (rowsR R rR)) ∧ rB.length = n ∧ rS.length = n ∧ rR.length = n ∧ Good v.length v' (rB ++ rS ++ rR) ∧ v <+: v'

set_option maxRecDepth 10000 in
set_option maxHeartbeats 4000000 in
theorem own_c {n : Nat} {B S R : Rows} {s : List AObj} {v : List Nat} (hn0 : n ≠ 0) (hn : n ≤ 1000000) (hB : B.length = n) (hS : S.length = n) (hR : R.length = n) (bB : ∀ x ∈ B, x.length ≤ 1000000) (bS : ∀ x ∈ S, x.length ≤ 1000000) (bR : ∀ x ∈ R, x.length ≤ 1000000) :
    aCalls Try.prog 42 [.agg (dcore B S R)] s v (OwnPost n B S R s v) := by
  refine aCalls_of Try.func42 rfl (by decide) (by simp [Try.ntmps42]) true ?_
  have hres : Try.f42.results = #[.cell 2 28] := rfl
  have nB : B ≠ [] := by intro e; subst e; simp at hB; omega
  have nS : S ≠ [] := by intro e; subst e; simp at hS; omega
  have nR : R ≠ [] := by intro e; subst e; simp at hR; omega
  simp [Try.ntmps42, dcore]
  refine aCalls_mono (lists_ne nB (by omega) bB (Nat.le_refl v.length) (Good.nil v.length v)) ?_
  rintro _ _ v1 ⟨rB, J1, j1, a1, rfl, rfl, a2, a3, a4⟩
  simp [get_app, set_app]
  refine aCalls_mono (lists_ne nS (by omega) bS a4.length_le a3) ?_
  rintro _ _ v2 ⟨rS, J2, j2, b1, rfl, rfl, b2, b3, b4⟩
  simp [get_app, set_app]
  refine aCalls_mono (lists_ne nR (by omega) bR (a4.trans b4).length_le b3) ?_
  rintro _ _ v3 ⟨rR, J3, j3, c1, rfl, rfl, c2, c3, c4⟩
  simp [get_app, set_app, hres]
  have g1 := (List.getElem?_eq_some_iff.1 a2).1
  have g2 := (List.getElem?_eq_some_iff.1 b2).1
  have g3 := (List.getElem?_eq_some_iff.1 c2).1
  refine ⟨_, 2 + j1, 2 + (J1.length + j2), 2 + (J1.length + J2.length + j3), rB, rS, rR, ?_, rfl, by omega, by omega, by omega, ?_, ?_, ?_, by omega, by omega, by omega, by simpa using c3, (a4.trans b4).trans c4⟩
  · simp only [ocore, hB, hS, hR]
    congr 1
    simp
    omega
  · rw [show 2 + j1 = j1 + 1 + 1 by omega]
    simp only [List.getElem?_cons_succ]
    rw [List.getElem?_append_left g1]; exact a2
  · rw [show 2 + (J1.length + j2) = (J1.length + j2) + 1 + 1 by omega]
    simp only [List.getElem?_cons_succ]
    rw [List.getElem?_append_right (by omega), List.getElem?_append_left (by omega), show J1.length + j2 - J1.length = j2 by omega]; exact b2
  · rw [show 2 + (J1.length + J2.length + j3) = (J1.length + J2.length + j3) + 1 + 1 by omega]
    simp only [List.getElem?_cons_succ]
    rw [List.getElem?_append_right (by omega), List.getElem?_append_right (by omega), show J1.length + J2.length + j3 - J1.length - J2.length = j3 by omega]; exact c2
end Go.Hb
end

section
namespace Go.Hb
open Go Go.Proofs Go.RowKit
attribute [-simp] aC aL aOper aThen aInBlock aIf aPlan

theorem Weaks.cells {C : Ctx} {b : Nat} : ∀ {xs ys : List LV} {o : Nat}, Weaks xs ys → RelCs C b xs o → RelCs C b ys o := by
  intro xs
  induction xs with
  | nil => intro ys o h r; cases ys with | nil => exact r | cons => exact h.elim
  | cons x xs ih =>
    intro ys o h r
    cases ys with
    | nil => exact h.elim
    | cons y ys =>
      simp only [RelCs] at r ⊢
      obtain ⟨⟨v, r1, r2, r3, r4⟩, r5⟩ := r
      exact ⟨⟨v, r1, r2, r3, h.1 _ _ r4⟩, ih h.2 r5⟩
theorem Weaks.length : ∀ {xs ys : List LV}, Weaks xs ys → xs.length = ys.length := by
  intro xs
  induction xs with
  | nil => intro ys h; cases ys with | nil => rfl | cons => exact h.elim
  | cons x xs ih => intro ys h; cases ys with | nil => exact h.elim | cons y ys => simp [ih h.2]
theorem Weak.immW {sz len : Nat} {xs ys : List LV} {r : Right} (h : Weaks xs ys) : Weak (.imm sz len xs r) (.imm sz len ys .no) := fun C v k => by
  simp only [RelV] at k ⊢
  obtain ⟨A, cap, e1, e2, e3, e4, e5, e6, e7, e8⟩ := k
  exact ⟨A, cap, e1, e2, e3, by rw [← h.length]; exact e4, e5, e6, fun b o hA => h.cells (e7 b o hA), trivial⟩

theorem rowsR_weak : ∀ (B : Rows) (rs : List Right), rs.length = B.length → Weaks (rowsR B rs) (B.map encI)
  | [], [], _ => trivial
  | b :: B, r :: rs, h => ⟨rowR_weak b r, rowsR_weak B rs (by simpa using h)⟩
  | [], _ :: _, h => by simp at h
  | _ :: _, [], h => by simp at h
theorem rowsR_length {B : Rows} {rs : List Right} (h : rs.length = B.length) : (rowsR B rs).length = B.length := by simp [rowsR, h]
theorem rowsR_get {B : Rows} {rs : List Right} {k : Nat} {b : List Int} {r : Right} (h1 : B[k]? = some b) (h2 : rs[k]? = some r) : (rowsR B rs)[k]? = some (.imm 1 b.length (b.map (.int .i64)) r) := by
  unfold rowsR; rw [List.getElem?_zipWith, h1, h2]; rfl
theorem rowsR_set : ∀ (B : Rows) (rs : List Right) (k : Nat) (b : List Int) (r : Right), (rowsR B rs).set k (.imm 1 b.length (b.map (.int .i64)) r) = rowsR (B.set k b) (rs.set k r)
  | [], _, _, _, _ => by simp [rowsR]
  | _ :: _, [], k, _, _ => by cases k <;> simp [rowsR]
  | _ :: B, _ :: rs, 0, b, r => by simp [rowsR, rowR]
  | _ :: B, _ :: rs, k + 1, b, r => by
    have := rowsR_set B rs k b r
    simp only [rowsR] at this
    simp [rowsR, this]

/-- Cells that hold these rows. -/
structure RowsOk (L : List LV) (B : Rows) : Prop where
  w : Weaks L (B.map encI)
  u : ∀ m, undersB m L = true
theorem RowsOk.length {L : List LV} {B : Rows} (h : RowsOk L B) : L.length = B.length := by have := h.w.length; simpa using this

/-- A state that the call made, with rows of its own. -/
structure Doc (n : Nat) (B S R : Rows) (s : List AObj) (x : LV) (s' : List AObj) : Prop where
  ex : ∃ J q r p LB LS LR, x = .agg (ocore (s.length + q) (s.length + r) (s.length + p) n) ∧ s ++ J = s' ∧ q ≠ r ∧ q ≠ p ∧ r ≠ p ∧
      J[q]? = some (.cells LB) ∧ J[r]? = some (.cells LS) ∧ J[p]? = some (.cells LR) ∧ RowsOk LB B ∧ RowsOk LS S ∧ RowsOk LR R ∧ B.length = n ∧ S.length = n ∧ R.length = n

def Plain (m : Nat) (rest : List LV) : Prop := (∀ id L, frzs id L rest = rest) ∧ undersB m rest = true

theorem row_under (m : Nat) (l : List Int) (r : Right) : (rowR l r).under m = true := by simp only [rowR, LV.under]; exact ints_under m l
theorem rowsR_under (m : Nat) : ∀ (B : Rows) (rs : List Right), undersB m (rowsR B rs) = true
  | [], _ => by simp [rowsR, undersB]
  | _ :: _, [] => by simp [rowsR, undersB]
  | b :: B, r :: rs => by
    have := rowsR_under m B rs
    simp only [rowsR] at this
    simp [rowsR, undersB, this, row_under]
theorem RowsOk.of {B : Rows} {rs : List Right} (h : rs.length = B.length) : RowsOk (rowsR B rs) B := ⟨rowsR_weak B rs h, fun m => rowsR_under m B rs⟩

theorem doc_freeze {P : Program} {f : FuncId} {args : List LV} {s : List AObj} {v : List Nat} {n : Nat} (hn : n ≠ 0) {B S R : Rows} {rest : List LV} (hp : Plain s.length rest)
    (h : aCalls P f args s v fun y s' v' => ∃ x, y = .tup (x :: rest) ∧ Doc n B S R s x s' ∧ v <+: v') :
    aCalls P f args s v fun y s' v' => .tup (.agg (dcore B S R) :: rest) = y ∧ s = s' ∧ v <+: v' := by
  refine aCalls_weak (aCalls_drop (aCalls_frz (aCalls_frz (aCalls_frz (aCalls_mono h ?_)))))
  rintro y s' v' ⟨x, rfl, ⟨J, q, r, p, LB, LS, LR, rfl, rfl, h1, h2, h3, gq, gr, gp, l1, l2, l3, k1, k2, k3⟩, hv⟩
  have ne : ∀ {L : List LV} {B : Rows}, RowsOk L B → B.length = n → L ≠ [] := fun h h' e => by
    have := h.length; rw [e] at this; simp at this; omega
  refine ⟨s.length + q, LB, by rw [get_app]; exact gq, ne l1 k1, s.length + r, LS, ?_, ne l2 k2, s.length + p, LR, ?_, ne l3 k3, ?_⟩
  · rw [set_app, get_app, List.getElem?_set_ne h1]; exact gr
  · rw [set_app, set_app, get_app, List.getElem?_set_ne h3, List.getElem?_set_ne h2]; exact gp
  · have n1 : LB.length = n := by rw [l1.length, k1]
    have n2 : LS.length = n := by rw [l2.length, k2]
    have n3 : LR.length = n := by rw [l3.length, k3]
    have hf : LV.frz (s.length + p) LR (LV.frz (s.length + r) LS (LV.frz (s.length + q) LB (.tup (.agg (ocore (s.length + q) (s.length + r) (s.length + p) n) :: rest)))) =
        .tup (.agg [.int .i64 0, .nils, .nils, .nils, .imm 1 n LB .no, .nils, .nils, .nils, .imm 1 n LS .no, .imm 1 n LR .no] :: rest) := by
      have t1 : List.take n LB = LB := List.take_of_length_le (by omega)
      have t2 : List.take n LS = LS := List.take_of_length_le (by omega)
      have t3 : List.take n LR = LR := List.take_of_length_le (by omega)
      simp [ocore, hp.1, n1, n2, n3, t1, t2, t3, h1, h2, h3, Ne.symm h1, Ne.symm h2, Ne.symm h3]
    rw [hf]
    refine ⟨s, ((J.set q (.cells [])).set r (.cells [])).set p (.cells []), by rw [set_app, set_app, set_app], rfl, ?_, fun i o ho => .inl ho, ?_⟩
    · simp only [LV.under, undersB, l1.u, l2.u, l3.u, hp.2, Bool.and_self]
    · refine ⟨.tup (.agg (dcore B S R) :: rest), s, Weak.tup (show Weaks (_ :: rest) (_ :: rest) from ⟨Weak.agg ?_, Weaks.refl _⟩), WeakS.refl _, rfl, rfl, hv⟩
      have w1 := Weak.immW (sz := 1) (len := n) (r := .no) l1.w
      have w2 := Weak.immW (sz := 1) (len := n) (r := .no) l2.w
      have w3 := Weak.immW (sz := 1) (len := n) (r := .no) l3.w
      refine ⟨Weak.refl _, Weak.refl _, Weak.refl _, Weak.refl _, ?_, Weak.refl _, Weak.refl _, Weak.refl _, ?_, ?_, trivial⟩
      · rw [rows, k1]; exact w1
      · rw [rows, k2]; exact w2
      · rw [rows, k3]; exact w3

/-! ### objects behind two others -/
theorem get2 (s : List AObj) (a b : AObj) (J : List AObj) (k : Nat) : (s ++ a :: b :: J)[s.length + 2 + k]? = J[k]? := by
  rw [Nat.add_assoc, get_app, Nat.add_comm 2 k]; rfl
theorem set2 (s : List AObj) (a b : AObj) (J : List AObj) (k : Nat) (o : AObj) : (s ++ a :: b :: J).set (s.length + 2 + k) o = s ++ a :: b :: J.set k o := by
  rw [Nat.add_assoc, set_app, Nat.add_comm 2 k]; rfl
theorem get3 (s : List AObj) (a b : AObj) {J : List AObj} {m : Nat} (o : AObj) (h : J.length = m) : (s ++ a :: b :: (J ++ [o]))[s.length + (m + 1 + 1)]? = some o := by
  rw [get_app]; subst h; simp
theorem set3 (s : List AObj) (a b : AObj) {J : List AObj} {m : Nat} (o o' : AObj) (h : J.length = m) : (s ++ a :: b :: (J ++ [o])).set (s.length + (m + 1 + 1)) o' = s ++ a :: b :: (J ++ [o']) := by
  rw [set_app]; subst h; simp
end Go.Hb
end

