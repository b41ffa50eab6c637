import Derived.Test.YtbglkjbmnlkgmaaChJ
namespace Go.Hb
open Go Go.Proofs Go.RowKit
attribute [-simp] aC aL aOper aThen aInBlock aIf

/-- Those that wait to send, and what: a, .. b-1. -/
def snd (a b : Nat) : List Int := (List.range' a (b - a)).flatMap fun (i : Nat) => [(i : Int), 100 + (i : Int)]
def rcv (a b : Nat) : List Int := (List.range' a (b - a)).map fun (i : Nat) => 50 + (i : Int)
theorem snd_nil {a b : Nat} (h : b ≤ a) : snd a b = [] := by unfold snd; rw [show b - a = 0 by omega]; rfl
theorem rcv_nil {a b : Nat} (h : b ≤ a) : rcv a b = [] := by unfold rcv; rw [show b - a = 0 by omega]; rfl
theorem snd_cons {a b : Nat} (h : a < b) : snd a b = (a : Int) :: (100 + (a : Int)) :: snd (a + 1) b := by
  unfold snd; rw [show b - a = (b - (a + 1)) + 1 by omega, List.range'_succ]; rfl
theorem rcv_cons {a b : Nat} (h : a < b) : rcv a b = (50 + (a : Int)) :: rcv (a + 1) b := by
  unfold rcv; rw [show b - a = (b - (a + 1)) + 1 by omega, List.range'_succ]; rfl
theorem snd_succ {a b : Nat} (h : a ≤ b) : snd a (b + 1) = snd a b ++ [(b : Int), 100 + (b : Int)] := by
  unfold snd; rw [show b + 1 - a = (b - a) + 1 by omega, List.range'_concat, List.flatMap_append]
  simp only [Nat.one_mul, show a + (b - a) = b by omega]; rfl
theorem rcv_succ {a b : Nat} (h : a ≤ b) : rcv a (b + 1) = rcv a b ++ [50 + (b : Int)] := by
  unfold rcv; rw [show b + 1 - a = (b - a) + 1 by omega, List.range'_concat, List.map_append]
  simp only [Nat.one_mul, show a + (b - a) = b by omega]; rfl
theorem snd_length (a b : Nat) : (snd a b).length = 2 * (b - a) := by
  unfold snd
  induction b - a generalizing a with
  | zero => rfl
  | succ k ih => rw [List.range'_succ, List.flatMap_cons, List.length_append, ih]; simp; omega
theorem rcv_length (a b : Nat) : (rcv a b).length = b - a := by unfold rcv; simp
theorem rcv_del {a b : Nat} (h : a < b) : del (50 + (a : Int)) (rcv a b) = rcv (a + 1) b := by
  rw [rcv_cons h]
  have : del (50 + (a : Int)) (rcv (a + 1) b) = rcv (a + 1) b := by
    apply del_id
    unfold rcv
    intro hm
    obtain ⟨i, hi, e⟩ := List.mem_map.1 hm
    have := (List.mem_range'_1.1 hi).1
    omega
  unfold del at this ⊢
  rw [List.filter_cons, this]; simp

def stA (n m : Nat) (first : Bool) : Nat → List Int × List Int
  | 0 => ([], [])
  | 1 => if first = true then (snd 0 n, []) else ([], rcv 0 m)
  | _ => (snd (min n m) n, rcv (min n m) m)

set_option maxRecDepth 10000 in
set_option maxHeartbeats 8000000 in
theorem meet_c {a0 a1 : Int} {first : Bool} {v : List Nat} (h0 : -9223372036854775808 ≤ a0) (h1 : a0 ≤ 9223372036854775807) (h2 : -9223372036854775808 ≤ a1) (h3 : a1 ≤ 9223372036854775807) :
    aCalls Try.prog 7 [.int .i64 a0, .int .i64 a1, .bool first] [] v fun y s' v' => y = .bool true ∧ v <+: v' := by
  refine aCalls_of Try.func7 rfl (by decide) (by simp [Try.ntmps7]) false ?_
  have hres : Try.f7.results = #[.tmp 6] := rfl
  simp [Try.ntmps7]
  refine aCalls_mono (by simpa using around_c (m := 13) (by omega) (by omega) h0 h1) ?_
  rintro _ _ _ ⟨n, hn, rfl, rfl, rfl⟩
  simp
  refine aCalls_mono (by simpa using around_c (m := 13) (by omega) (by omega) h2 h3) ?_
  rintro _ _ _ ⟨m, hm, rfl, rfl, rfl⟩
  simp
  refine aCalls_mono (by simpa using new_c (n := 1) (by omega) (by omega)) ?_
  rintro _ _ _ ⟨q, r, p, hf, rfl, rfl, rfl⟩
  have H : Base (anew [] q r p 1) 4 q r p 1 := anew_base hf (by omega)
  simp [core]
  have e0 : [.cells (core q r p 1), .cells (empt 1), .cells (empt 1), .cells (empt 1), .cells (core q r p 1)] = put (anew [] q r p 1) q r p [[]] [[]] [[]] := (anew_put hf).symm
  simp only [core] at e0
  rw [e0]
  generalize anew [] q r p 1 = s0 at H
  refine aW_loopC false (fun st => ∃ k : Nat, k ≤ 2 ∧ st.t 8 = .int .i64 k ∧ st.t 0 = .int .i64 n ∧ st.t 1 = .int .i64 m ∧ st.t 2 = .bool first ∧ st.t 7 = .ptr 4 0 ∧ put s0 q r p [[]] [(stA n m first k).1] [(stA n m first k).2] = st.s ∧ v <+: st.v) (fun st => 2 - numOf (st.t 8)) ?_ ?_
  · exact ⟨0, by simp [upd_apply, stA]⟩
  rintro t1 s1 v1 ⟨k, hk, h8, h0, h1, h2, h7, rfl, hv⟩
  simp only at h8 h0 h1 h2 h7 hv
  by_cases hk2 : k < 2
  · have w1 : IntKind.i64.wrap 1 = 1 := IntWalk.i64_in _ ⟨by omega, by omega⟩
    have w2 : IntKind.i64.wrap 2 = 2 := IntWalk.i64_in _ ⟨by omega, by omega⟩
    have hcase : (k = 0 ∧ first = true) ∨ (k = 0 ∧ first = false) ∨ (k = 1 ∧ first = true) ∨ (k = 1 ∧ first = false) := by
      cases first <;> simp <;> omega
    rcases hcase with ⟨rfl, rfl⟩ | ⟨rfl, rfl⟩ | ⟨rfl, rfl⟩ | ⟨rfl, rfl⟩
    · simp [h8, h0, h1, h2, h7, stA]
      refine aW_loopC false (fun st => ∃ j : Nat, j ≤ n ∧ st.t 10 = .int .i64 j ∧ st.t 8 = .int .i64 0 ∧ st.t 9 = .bool true ∧ st.t 0 = .int .i64 n ∧ st.t 1 = .int .i64 m ∧ st.t 2 = .bool true ∧ st.t 7 = .ptr 4 0 ∧ put s0 q r p [[]] [snd 0 j] [[]] = st.s ∧ v <+: st.v) (fun st => n - numOf (st.t 10)) ?_ ?_
      · exact ⟨0, by simp [upd_apply, h8, h0, h1, h2, h7, hv, snd_nil]⟩
      rintro t1 s1 v1 ⟨j, hj, h10, h8, h9, h0, h1, h2, h7, rfl, hv⟩
      simp only at h8 h0 h1 h2 h7 hv h9 h10
      by_cases hjn : j < n
      · have hjn' : (j : Int) < (n : Int) := by omega
        have hwj := wrap_succ hjn (by omega)
        have hw100 : IntKind.i64.wrap (100 + (j : Int)) = 100 + (j : Int) := IntWalk.i64_in _ ⟨by omega, by omega⟩
        simp [h10, h8, h0, h1, h2, h7, h9, hjn, hw100]
        refine aCalls_mono (by simpa using send_wait (ch := 0) (room := 0) (t := j) (x := 100 + j) (σ := snd 0 j) (b := []) H rfl rfl rfl rfl rfl (by rw [snd_length]; omega) (by simp)) ?_
        rintro _ _ _ ⟨rfl, rfl, hv2⟩
        simp [h10, h8, h0, h1, h2, h7, h9, hwj, numOf]
        exact ⟨⟨j + 1, by omega, rfl, by rw [snd_succ (by omega)], hv.trans hv2⟩, by omega⟩
      · have : j = n := by omega
        subst this
        simp [h10, h8, h0, h1, h2, h7, h9]
        refine aW_loopC false (fun st => st.t 14 = .int .i64 0 ∧ st.t 8 = .int .i64 0 ∧ st.t 9 = .bool true ∧ st.t 0 = .int .i64 j ∧ st.t 1 = .int .i64 m ∧ st.t 2 = .bool true ∧ st.t 7 = .ptr 4 0 ∧ put s0 q r p [[]] [snd 0 j] [[]] = st.s ∧ v <+: st.v) (fun _ => 0) ?_ ?_
        · simp [upd_apply, h8, h0, h1, h2, h7, h9, hv]
        rintro t1 s1 v1 ⟨h14, h8, h9, h0, h1, h2, h7, rfl, hv⟩
        simp only at h8 h0 h1 h2 h7 hv h9 h14
        by_cases hm0 : 0 < m
        all_goals
          simp [h14, h8, h0, h1, h2, h7, h9, hm0, numOf, w1]
          exact ⟨1, by omega, rfl, rfl, hv⟩
    · simp [h8, h0, h1, h2, h7, stA]
      refine aW_loopC false (fun st => st.t 10 = .int .i64 0 ∧ st.t 8 = .int .i64 0 ∧ st.t 9 = .bool false ∧ st.t 0 = .int .i64 n ∧ st.t 1 = .int .i64 m ∧ st.t 2 = .bool false ∧ st.t 7 = .ptr 4 0 ∧ put s0 q r p [[]] [[]] [[]] = st.s ∧ v <+: st.v) (fun _ => 0) ?_ ?_
      · simp [upd_apply, h8, h0, h1, h2, h7, hv]
      rintro t1 s1 v1 ⟨h10, h8, h9, h0, h1, h2, h7, rfl, hv⟩
      simp only at h8 h0 h1 h2 h7 hv h9 h10
      have hgo : ∀ b : Bool, b = decide (0 < n) → b = true ∨ b = false := fun b _ => by cases b <;> simp
      by_cases hn0 : 0 < n
      all_goals
        simp [h10, h8, h0, h1, h2, h7, h9, hn0]
        refine aW_loopC false (fun st => ∃ j : Nat, j ≤ m ∧ st.t 14 = .int .i64 j ∧ st.t 8 = .int .i64 0 ∧ st.t 9 = .bool false ∧ st.t 0 = .int .i64 n ∧ st.t 1 = .int .i64 m ∧ st.t 2 = .bool false ∧ st.t 7 = .ptr 4 0 ∧ put s0 q r p [[]] [[]] [rcv 0 j] = st.s ∧ v <+: st.v) (fun st => m - numOf (st.t 14)) ?_ ?_
        · exact ⟨0, by simp [upd_apply, h8, h0, h1, h2, h7, h9, hv, rcv_nil]⟩
        rintro t1 s1 v1 ⟨j, hj, h14, h8, h9, h0, h1, h2, h7, rfl, hv⟩
        simp only at h8 h0 h1 h2 h7 hv h9 h14
        by_cases hjn : j < m
        · have hjn' : (j : Int) < (m : Int) := by omega
          have hwj := wrap_succ hjn (by omega)
          have hw50 : IntKind.i64.wrap (50 + (j : Int)) = 50 + (j : Int) := IntWalk.i64_in _ ⟨by omega, by omega⟩
          simp [h14, h8, h0, h1, h2, h7, h9, hjn, hw50]
          refine aCalls_mono (by simpa using recv_wait (ch := 0) (t := 50 + j) (R := [rcv 0 j]) H rfl rfl (by simp [rcv_length]; omega) rfl rfl) ?_
          rintro _ _ _ ⟨rfl, rfl, hv2⟩
          simp [h14, h8, h0, h1, h2, h7, h9, hwj, numOf]
          exact ⟨⟨j + 1, by omega, rfl, by rw [rcv_succ (by omega)]; rfl, hv.trans hv2⟩, by omega⟩
        · have : j = m := by omega
          subst this
          simp [h14, h8, h0, h1, h2, h7, h9, numOf, w1]
          exact ⟨1, by omega, rfl, rfl, hv⟩
    · simp [h8, h0, h1, h2, h7, stA]
      refine aW_loopC false (fun st => st.t 10 = .int .i64 0 ∧ st.t 8 = .int .i64 1 ∧ st.t 9 = .bool false ∧ st.t 0 = .int .i64 n ∧ st.t 1 = .int .i64 m ∧ st.t 2 = .bool true ∧ st.t 7 = .ptr 4 0 ∧ put s0 q r p [[]] [snd 0 n] [[]] = st.s ∧ v <+: st.v) (fun _ => 0) ?_ ?_
      · simp [upd_apply, h8, h0, h1, h2, h7, hv]
      rintro t1 s1 v1 ⟨h10, h8, h9, h0, h1, h2, h7, rfl, hv⟩
      simp only at h8 h0 h1 h2 h7 hv h9 h10
      by_cases hn0 : 0 < n
      all_goals
        simp [h10, h8, h0, h1, h2, h7, h9, hn0]
        refine aW_loopC false (fun st => ∃ j : Nat, j ≤ m ∧ st.t 14 = .int .i64 j ∧ st.t 8 = .int .i64 1 ∧ st.t 9 = .bool false ∧ st.t 0 = .int .i64 n ∧ st.t 1 = .int .i64 m ∧ st.t 2 = .bool true ∧ st.t 7 = .ptr 4 0 ∧ put s0 q r p [[]] [snd (min j n) n] [rcv (min j n) j] = st.s ∧ v <+: st.v) (fun st => m - numOf (st.t 14)) ?_ ?_
        · exact ⟨0, by simp [upd_apply, h8, h0, h1, h2, h7, h9, hv, rcv_nil]⟩
        rintro t1 s1 v1 ⟨j, hj, h14, h8, h9, h0, h1, h2, h7, rfl, hv⟩
        simp only at h8 h0 h1 h2 h7 hv h9 h14
        by_cases hjn : j < m
        · have hjn' : (j : Int) < (m : Int) := by omega
          have hwj := wrap_succ hjn (by omega)
          have hw50 : IntKind.i64.wrap (50 + (j : Int)) = 50 + (j : Int) := IntWalk.i64_in _ ⟨by omega, by omega⟩
          have hw100 : IntKind.i64.wrap (100 + (j : Int)) = 100 + (j : Int) := IntWalk.i64_in _ ⟨by omega, by omega⟩
          by_cases hjj : j < n
          · have hm1 : min j n = j := by omega
            have hm2 : min (j + 1) n = j + 1 := by omega
            rw [hm1, snd_cons hjj, rcv_nil (Nat.le_refl j)]
            simp [h14, h8, h0, h1, h2, h7, h9, hjn, hw50]
            refine aCalls_mono (by simpa [takeOut] using recv_ready (ch := 0) (t := 50 + j) (R := [[]]) (B := [[]]) (S := [(j : Int) :: (100 + j) :: snd (j + 1) n]) (b := []) (σ := (j : Int) :: (100 + j) :: snd (j + 1) n) H rfl rfl rfl rfl (by simp [snd_length]; omega) (by simp) (by simp [snd_length]; omega) (by simp)) ?_
            rintro _ _ _ ⟨rfl, rfl, hv2⟩
            simp [h14, h8, h0, h1, h2, h7, h9, hwj, numOf, hjj, hw100]
            exact ⟨⟨j + 1, by omega, rfl, by rw [hm2, rcv_nil (Nat.le_refl (j + 1))], hv.trans hv2⟩, by omega⟩
          · have hm1 : min j n = n := by omega
            have hm2 : min (j + 1) n = n := by omega
            rw [hm1, snd_nil (Nat.le_refl n)]
            simp [h14, h8, h0, h1, h2, h7, h9, hjn, hw50]
            refine aCalls_mono (by simpa using recv_wait (ch := 0) (t := 50 + j) (R := [rcv n j]) H rfl rfl (by simp [rcv_length]; omega) rfl rfl) ?_
            rintro _ _ _ ⟨rfl, rfl, hv2⟩
            simp [h14, h8, h0, h1, h2, h7, h9, hwj, numOf, hjj]
            exact ⟨⟨j + 1, by omega, rfl, by rw [hm2, rcv_succ (by omega), snd_nil (Nat.le_refl n)]; rfl, hv.trans hv2⟩, by omega⟩
        · have : j = m := by omega
          subst this
          simp [h14, h8, h0, h1, h2, h7, h9, numOf, w2]
          exact ⟨2, by omega, rfl, by rw [Nat.min_comm]; rfl, hv⟩
    · simp [h8, h0, h1, h2, h7, stA]
      refine aW_loopC false (fun st => ∃ j : Nat, j ≤ n ∧ st.t 10 = .int .i64 j ∧ st.t 8 = .int .i64 1 ∧ st.t 9 = .bool true ∧ st.t 0 = .int .i64 n ∧ st.t 1 = .int .i64 m ∧ st.t 2 = .bool false ∧ st.t 7 = .ptr 4 0 ∧ put s0 q r p [[]] [snd (min j m) j] [rcv (min j m) m] = st.s ∧ v <+: st.v) (fun st => n - numOf (st.t 10)) ?_ ?_
      · exact ⟨0, by simp [upd_apply, h8, h0, h1, h2, h7, hv, snd_nil]⟩
      rintro t1 s1 v1 ⟨j, hj, h10, h8, h9, h0, h1, h2, h7, rfl, hv⟩
      simp only at h8 h0 h1 h2 h7 hv h9 h10
      by_cases hjn : j < n
      · have hjn' : (j : Int) < (n : Int) := by omega
        have hwj := wrap_succ hjn (by omega)
        have hw100 : IntKind.i64.wrap (100 + (j : Int)) = 100 + (j : Int) := IntWalk.i64_in _ ⟨by omega, by omega⟩
        have hw50 : IntKind.i64.wrap (50 + (j : Int)) = 50 + (j : Int) := IntWalk.i64_in _ ⟨by omega, by omega⟩
        have h50 : (0 : Int) ≤ 50 + (j : Int) := by omega
        by_cases hjj : j < m
        · have hm1 : min j m = j := by omega
          have hm2 : min (j + 1) m = j + 1 := by omega
          rw [hm1, snd_nil (Nat.le_refl j), rcv_cons hjj]
          simp [h10, h8, h0, h1, h2, h7, h9, hjn, hw100]
          refine aCalls_mono (by simpa using send_meet (ch := 0) (room := 0) (t := j) (x := 100 + j) (f := 50 + j) (ρ := rcv (j + 1) m) (B := [[]]) (S := [[]]) (R := [(50 + (j : Int)) :: rcv (j + 1) m]) H rfl (by simp [rcv_length]; omega) rfl) ?_
          rintro _ _ _ ⟨rfl, rfl, rfl⟩
          simp [h10, h8, h0, h1, h2, h7, h9, hwj, numOf, hjj, hw50, h50]
          exact ⟨⟨j + 1, by omega, rfl, by rw [hm2, snd_nil (Nat.le_refl (j + 1)), ← rcv_cons hjj, rcv_del hjj], hv⟩, by omega⟩
        · have hm1 : min j m = m := by omega
          have hm2 : min (j + 1) m = m := by omega
          rw [hm1, rcv_nil (Nat.le_refl m)]
          simp [h10, h8, h0, h1, h2, h7, h9, hjn, hw100]
          refine aCalls_mono (by simpa using send_wait (ch := 0) (room := 0) (t := j) (x := 100 + j) (σ := snd m j) (b := []) H rfl rfl rfl rfl rfl (by rw [snd_length]; omega) (by simp)) ?_
          rintro _ _ _ ⟨rfl, rfl, hv2⟩
          simp [h10, h8, h0, h1, h2, h7, h9, hwj, numOf, hjj]
          exact ⟨⟨j + 1, by omega, rfl, by rw [hm2, snd_succ (by omega), rcv_nil (Nat.le_refl m)], hv.trans hv2⟩, by omega⟩
      · have : j = n := by omega
        subst this
        simp [h10, h8, h0, h1, h2, h7, h9]
        refine aW_loopC false (fun st => st.t 14 = .int .i64 0 ∧ st.t 8 = .int .i64 1 ∧ st.t 9 = .bool true ∧ st.t 0 = .int .i64 j ∧ st.t 1 = .int .i64 m ∧ st.t 2 = .bool false ∧ st.t 7 = .ptr 4 0 ∧ put s0 q r p [[]] [snd (min j m) j] [rcv (min j m) m] = st.s ∧ v <+: st.v) (fun _ => 0) ?_ ?_
        · simp [upd_apply, h8, h0, h1, h2, h7, h9, hv]
        rintro t1 s1 v1 ⟨h14, h8, h9, h0, h1, h2, h7, rfl, hv⟩
        simp only at h8 h0 h1 h2 h7 hv h9 h14
        by_cases hm0 : 0 < m
        all_goals
          simp [h14, h8, h0, h1, h2, h7, h9, hm0, numOf, w2]
          exact ⟨2, by omega, rfl, rfl, hv⟩
  · have : k = 2 := by omega
    subst this
    have hws : IntKind.i64.wrap ((n : Int) - m) = (n : Int) - m := IntWalk.i64_in _ ⟨by omega, by omega⟩
    have hws2 : IntKind.i64.wrap ((m : Int) - n) = (m : Int) - n := IntWalk.i64_in _ ⟨by omega, by omega⟩
    simp [h8, h0, h1, h2, h7, H.gi, H.gq, H.gp, core, stA, encI]
    refine aCalls_mono (by simpa [core] using senders_c (ch := 0) (σ := snd (min n m) n) H rfl rfl (by rw [snd_length]; omega) (by rw [snd_length]; omega)) ?_
    rintro _ _ _ ⟨rfl, rfl, hv2⟩
    have hfl : (firsts (snd (min n m) n)).length = n - min n m := by rw [firsts_length, snd_length]; omega
    have hrl : (rcv (min n m) m).length = m - min n m := rcv_length _ _
    have hcase : ((n : Int) - m < 0 ∧ ¬ (m : Int) - n < 0 ∧ ((n - min n m : Nat) : Int) = 0 ∧ ((m - min n m : Nat) : Int) = (m : Int) - n) ∨
      (¬ (n : Int) - m < 0 ∧ ¬ (m : Int) - n < 0 ∧ ((n - min n m : Nat) : Int) = (n : Int) - m ∧ ((m - min n m : Nat) : Int) = (m : Int) - n) ∨
      (¬ (n : Int) - m < 0 ∧ (m : Int) - n < 0 ∧ ((n - min n m : Nat) : Int) = (n : Int) - m ∧ ((m - min n m : Nat) : Int) = 0) := by omega
    rcases hcase with ⟨c1, c2, c3, c4⟩ | ⟨c1, c2, c3, c4⟩ | ⟨c1, c2, c3, c4⟩
    all_goals
      simp [h0, h1, h7, H.gi, H.gp, core, encI, hws, hws2, hfl, hrl, c1, c2, c3, c4]
      refine aCalls_mono (by simpa using lives_c) ?_
      rintro _ _ _ ⟨rfl, rfl, hv3⟩
      simp [hres]
      exact (hv.trans hv2).trans hv3
end Go.Hb
