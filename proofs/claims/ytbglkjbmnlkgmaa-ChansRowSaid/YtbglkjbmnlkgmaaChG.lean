import Derived.Test.YtbglkjbmnlkgmaaChF
namespace Go.Hb
open Go Go.Proofs Go.RowKit

/-- What is received of a channel: the number, whose it is, what lies there then, and who waits then. -/
def takeOut : List Int → List Int → Int × Int × List Int × List Int
  | [], a :: c :: σ => (c, a, [], σ)
  | x :: b, [] => (x, -1, b, [])
  | x :: b, a :: c :: σ => (x, a, b ++ [c], σ)
  | b, σ => (0, -1, b, σ)

/-- A thread waits behind the others, at each of some channels. -/
def wait (t : Int) (R : Rows) (c : Nat) : Rows := R.set c (R.getD c [] ++ [t])
def waits (t : Int) (cl : List Nat) (R : Rows) : Rows := cl.foldl (wait t) R
theorem waits_length (t : Int) (cl : List Nat) (R : Rows) : (waits t cl R).length = R.length := by
  unfold waits
  induction cl generalizing R with
  | nil => rfl
  | cons c cl ih => rw [List.foldl_cons, ih]; simp [wait]
theorem waits_row (t : Int) (M : Nat) (cl : List Nat) (R : Rows) (h : ∀ x ∈ R, x.length ≤ M) : ∀ x ∈ waits t cl R, x.length ≤ M + cl.length := by
  unfold waits
  induction cl generalizing R M with
  | nil => simpa using h
  | cons c cl ih =>
    intro x hx
    rw [List.foldl_cons] at hx
    have := ih (M + 1) (wait t R c) (fun y hy => by
      rcases List.mem_or_eq_of_mem_set hy with hy | hy
      · have := h y hy; omega
      · subst hy
        rw [List.length_append, List.length_singleton]
        have : (R.getD c []).length ≤ M := by
          rw [List.getD_eq_getElem?_getD]
          cases hc : R[c]? with
          | none => simp
          | some z => exact h z (List.mem_of_getElem? hc)
        omega) x hx
    rw [List.length_cons]; omega
theorem waits_succ (t : Int) {cl : List Nat} {j : Nat} (hj : j < cl.length) (R : Rows) : waits t (cl.take (j + 1)) R = wait t (waits t (cl.take j) R) cl[j] := by
  unfold waits
  rw [List.take_succ_eq_append_getElem hj, List.foldl_append]; rfl

section
variable {s : List AObj} {id q r p n ch : Nat} {t x room : Int} {B S R : Rows} {b σ ρ : List Int} {v : List Nat}

theorem set_same {α : Type} {l : List α} {k : Nat} {x : α} (h : l[k]? = some x) : l.set k x = l := by
  apply List.ext_getElem?
  intro i
  by_cases e : k = i
  · subst e; rw [List.getElem?_set_self (get_lt h), h]
  · rw [List.getElem?_set_ne e]

theorem take_c (H : Base s id q r p n) (hb : B[ch]? = some b) (hB : B.length = n) (hs : S[ch]? = some σ) (hS : S.length = n) (he : σ.length % 2 = 0) (h0 : 0 < b.length + σ.length) (hl : σ.length ≤ 1000000) (hbl : b.length + 1 ≤ 1000000) :
    aCalls Try.prog 34 [.ptr id 0, .int .i64 ch] (put s q r p B S R) v fun y s' v' => y = .tup [.int .i64 (takeOut b σ).1, .int .i64 (takeOut b σ).2.1] ∧ put s q r p (B.set ch (takeOut b σ).2.2.1) (S.set ch (takeOut b σ).2.2.2) R = s' ∧ v <+: v' := by
  cases b with
  | nil =>
    match σ, hs, he, h0, hl with
    | a :: c :: σ, hs, he, h0, hl =>
      refine aCalls_mono (take_sent H hb hB hs hS (by simp at hl; omega)) ?_
      rintro _ _ _ ⟨rfl, rfl, hv⟩
      exact ⟨rfl, by simp only [takeOut]; rw [set_same hb], hv⟩
  | cons x b =>
    match σ, hs, he, h0, hl with
    | [], hs, he, h0, hl =>
      refine aCalls_mono (take_lay H hb hB hs hS) ?_
      rintro _ _ _ ⟨rfl, rfl, hv⟩
      exact ⟨rfl, by simp only [takeOut]; rw [set_same hs], hv⟩
    | a :: c :: σ, hs, he, h0, hl =>
      refine aCalls_mono (take_both H hb hB hs hS (by simp at hl; omega) (by simp at hbl; omega)) ?_
      rintro _ _ _ ⟨rfl, rfl, hv⟩
      exact ⟨rfl, rfl, hv⟩

def ints (cl : List Nat) : List Int := cl.map fun (k : Nat) => (k : Int)

set_option maxRecDepth 10000 in
set_option maxHeartbeats 2000000 in
theorem select_ready (H : Base s id q r p n) (hB : B.length = n) (hS : S.length = n) {cl : List Nat} {k : Nat} (hlen : cl.length ≤ 1000000) (hno : ∀ (j c : Nat), cl[j]? = some c → j < k → B[c]? = some [] ∧ S[c]? = some []) (hk : cl[k]? = some ch)
    (hb : B[ch]? = some b) (hs : S[ch]? = some σ) (he : σ.length % 2 = 0) (h0 : 0 < b.length + σ.length) (hl : σ.length ≤ 1000000) (hbl : b.length + 1 ≤ 1000000) :
    aCalls Try.prog 19 [.ptr id 0, encI (ints cl), .int .i64 t] (put s q r p B S R) v fun y s' v' => y = .tup [.int .i64 k, .int .i64 (takeOut b σ).1, .int .i64 (takeOut b σ).2.1, .bool true] ∧
      put s q r p (B.set ch (takeOut b σ).2.2.1) (S.set ch (takeOut b σ).2.2.2) R = s' ∧ v <+: v' := by
  refine aCalls_of Try.func19 rfl (by decide) (by simp [Try.ntmps19]) false ?_
  simp [Try.f19, encI, ints]
  refine aW_loopC false (fun st => ∃ j : Nat, j ≤ k ∧ st.t 18 = .int .i64 j ∧ st.t 17 = .int .i64 cl.length ∧ st.t 16 = encI (ints cl) ∧ st.t 0 = .ptr id 0 ∧ put s q r p B S R = st.s ∧ v = st.v) (fun st => cl.length - numOf (st.t 18)) ?_ ?_
  · exact ⟨0, by simp [upd_apply, encI, ints]⟩
  rintro t1 s1 v1 ⟨j, hj, h18, h17, h16, ht0, rfl, rfl⟩
  simp only at h18 h17 h16 ht0
  have hkl := get_lt hk
  have hjl : j < cl.length := by omega
  have hjl' : (j : Int) < (cl.length : Int) := by omega
  have hw := wrap_succ hjl hlen
  have hjc : cl[j]? = some cl[j] := List.getElem?_eq_getElem hjl
  by_cases hjk : j = k
  · subst hjk
    have hce : cl[j] = ch := by rw [hk] at hjc; exact (Option.some.inj hjc).symm
    simp [h18, h17, h16, ht0, hjl, encI, ints, H.gi, core]
    rw [hce]
    refine aCalls_mono (by simpa [core] using ready_c H hb hs hB (by omega)) ?_
    rintro _ _ _ ⟨rfl, rfl, rfl⟩
    simp [h0, ht0]
    refine aCalls_mono (by simpa using take_c (R := R) H hb hB hs hS he h0 hl hbl) ?_
    rintro _ _ _ ⟨rfl, rfl, hv⟩
    simp
    exact hv
  · obtain ⟨hb0, hs0⟩ := hno j _ hjc (by omega)
    simp [h18, h17, h16, ht0, hjl, encI, ints, H.gi, core]
    refine aCalls_mono (by simpa [core] using ready_c H hb0 hs0 hB (by simp)) ?_
    rintro _ _ _ ⟨rfl, rfl, rfl⟩
    simp [h18, h17, h16, ht0, hw, numOf, encI, ints]
    exact ⟨⟨j + 1, by omega, rfl⟩, by omega⟩

set_option maxRecDepth 10000 in
set_option maxHeartbeats 2000000 in
theorem select_none (H : Base s id q r p n) (hB : B.length = n) (hR : R.length = n) {cl : List Nat} {M : Nat} (hM : M + cl.length ≤ 1000000) (hRM : ∀ x ∈ R, x.length ≤ M) (hno : ∀ c ∈ cl, B[c]? = some [] ∧ S[c]? = some []) :
    aCalls Try.prog 19 [.ptr id 0, encI (ints cl), .int .i64 t] (put s q r p B S R) v fun y s' v' => y = .tup [.int .i64 (-1), .int .i64 0, .int .i64 (-1), .bool false] ∧
      put s q r p B S (waits t cl R) = s' ∧ v <+: v' := by
  have hlen : cl.length ≤ 1000000 := by omega
  refine aCalls_of Try.func19 rfl (by decide) (by simp [Try.ntmps19]) false ?_
  simp [Try.f19, encI, ints]
  refine aW_loopC false (fun st => ∃ j : Nat, j ≤ cl.length ∧ st.t 18 = .int .i64 j ∧ st.t 17 = .int .i64 cl.length ∧ st.t 16 = encI (ints cl) ∧ st.t 1 = encI (ints cl) ∧ st.t 2 = .int .i64 t ∧ st.t 0 = .ptr id 0 ∧ put s q r p B S R = st.s ∧ v = st.v) (fun st => cl.length - numOf (st.t 18)) ?_ ?_
  · exact ⟨0, by simp [upd_apply, encI, ints]⟩
  rintro t1 s1 v1 ⟨j, hj, h18, h17, h16, ht1, ht2, ht0, rfl, rfl⟩
  simp only at h18 h17 h16 ht0 ht1 ht2
  by_cases hjl : j < cl.length
  · have hjl' : (j : Int) < (cl.length : Int) := by omega
    have hw := wrap_succ hjl hlen
    obtain ⟨hb0, hs0⟩ := hno _ (List.getElem_mem hjl)
    simp [h18, h17, h16, ht0, hjl, encI, ints, H.gi, core]
    refine aCalls_mono (by simpa [core] using ready_c H hb0 hs0 hB (by simp)) ?_
    rintro _ _ _ ⟨rfl, rfl, rfl⟩
    simp [ht0, ht1, ht2, hw, numOf, encI, ints]
    exact ⟨⟨j + 1, by omega, rfl⟩, by omega⟩
  · simp [h18, h17, hjl, ht1, encI, ints]
    refine aW_loopC false (fun st => ∃ j : Nat, j ≤ cl.length ∧ st.t 40 = .int .i64 j ∧ st.t 39 = .int .i64 cl.length ∧ st.t 38 = encI (ints cl) ∧ st.t 2 = .int .i64 t ∧ st.t 0 = .ptr id 0 ∧ put s q r p B S (waits t (cl.take j) R) = st.s ∧ v <+: st.v) (fun st => cl.length - numOf (st.t 40)) ?_ ?_
    · exact ⟨0, by simp [upd_apply, encI, ints, ht0, ht2, waits]⟩
    rintro t2 s2 v2 ⟨j, hj, h40, h39, h38, ht2, ht0, rfl, hv⟩
    simp only at h40 h39 h38 ht0 ht2 hv
    by_cases hjl : j < cl.length
    · have hjl' : (j : Int) < (cl.length : Int) := by omega
      have hw := wrap_succ hjl hlen
      obtain ⟨hb0, hs0⟩ := hno _ (List.getElem_mem hjl)
      have hcn : cl[j] < n := by have := get_lt hb0; omega
      have hcn' : cl[j] < (waits t (cl.take j) R).length := by rw [waits_length]; omega
      have hrow : (waits t (cl.take j) R)[cl[j]]? = some ((waits t (cl.take j) R).getD cl[j] []) := by
        rw [List.getD_eq_getElem?_getD, List.getElem?_eq_getElem hcn']; rfl
      have hM2 := waits_row t M (cl.take j) R hRM _ (List.mem_of_getElem? hrow)
      rw [List.length_take] at hM2
      simp [h40, h39, h38, ht0, ht2, hjl, encI, ints, H.gi, core, hcn, zeros]
      refine aCalls_args (args' := [.ptr p cl[j], encI [t]]) ⟨Weak.refl _, Weak.imm _ _ _ _, trivial⟩ ?_
      refine aCalls_mono (push_p H hrow (by rw [List.length_singleton]; omega) (by simp)) ?_
      rintro _ _ _ ⟨rfl, rfl, hv2⟩
      simp [h40, h39, h38, ht0, ht2, hw, numOf, encI, ints]
      exact ⟨⟨j + 1, by omega, rfl, by rw [waits_succ t hjl]; rfl, hv.trans hv2⟩, by omega⟩
    · have : j = cl.length := by omega
      subst this
      simp [h40, h39]
      exact hv

/-- What a receiver of one channel is told: it is received, or waited for. -/
theorem recv_ready (H : Base s id q r p n) (hB : B.length = n) (hS : S.length = n)
    (hb : B[ch]? = some b) (hs : S[ch]? = some σ) (he : σ.length % 2 = 0) (h0 : 0 < b.length + σ.length) (hl : σ.length ≤ 1000000) (hbl : b.length + 1 ≤ 1000000) :
    aCalls Try.prog 16 [.ptr id 0, .int .i64 ch, .int .i64 t] (put s q r p B S R) v fun y s' v' => y = .tup [.int .i64 (takeOut b σ).1, .int .i64 (takeOut b σ).2.1, .bool true] ∧
      put s q r p (B.set ch (takeOut b σ).2.2.1) (S.set ch (takeOut b σ).2.2.2) R = s' ∧ v <+: v' := by
  refine aCalls_of Try.func16 rfl (by decide) (by simp [Try.ntmps16]) false ?_
  simp [Try.f16, zeros]
  refine aCalls_args (args' := [.ptr id 0, encI (ints [ch]), .int .i64 t]) ⟨Weak.refl _, Weak.imm _ _ _ _, Weak.refl _, trivial⟩ ?_
  refine aCalls_mono (select_ready (cl := [ch]) (k := 0) H hB hS (by simp) (fun _ _ _ h => by omega) rfl hb hs he h0 hl hbl) ?_
  rintro _ _ _ ⟨rfl, rfl, hv⟩
  simp [hv]

theorem recv_wait (H : Base s id q r p n) (hB : B.length = n) (hR : R.length = n) (hRM : ∀ x ∈ R, x.length ≤ 999999) (hb : B[ch]? = some []) (hs : S[ch]? = some []) :
    aCalls Try.prog 16 [.ptr id 0, .int .i64 ch, .int .i64 t] (put s q r p B S R) v fun y s' v' => y = .tup [.int .i64 0, .int .i64 (-1), .bool false] ∧
      put s q r p B S (wait t R ch) = s' ∧ v <+: v' := by
  refine aCalls_of Try.func16 rfl (by decide) (by simp [Try.ntmps16]) false ?_
  simp [Try.f16, zeros]
  refine aCalls_args (args' := [.ptr id 0, encI (ints [ch]), .int .i64 t]) ⟨Weak.refl _, Weak.imm _ _ _ _, Weak.refl _, trivial⟩ ?_
  refine aCalls_mono (select_none (cl := [ch]) (M := 999999) H hB hR (by simp) hRM (fun c hc => by simp at hc; subst hc; exact ⟨hb, hs⟩)) ?_
  rintro _ _ _ ⟨rfl, rfl, hv⟩
  simp [hv, waits]
end
end Go.Hb
