import Derived.Test.YtbglkjbmnlkgmaaChK
import Derived.Test.YtbglkjbmnlkgmaaHbIn
namespace Go.Hb
open Go Go.Proofs Go.RowKit
attribute [-simp] aC aL aOper aThen aInBlock aIf

/-- What those that wait to send, send. -/
def seconds : List Int → List Int
  | _ :: c :: l => c :: seconds l
  | _ => []
theorem seconds_length : ∀ l : List Int, (seconds l).length = l.length / 2
  | [] => rfl
  | [_] => by simp [seconds]
  | a :: b :: l => by simp [seconds, seconds_length l]; omega
theorem seconds_snoc (t x : Int) : ∀ l : List Int, l.length % 2 = 0 → seconds (l ++ [t, x]) = seconds l ++ [x]
  | [], _ => rfl
  | [_], h => by simp at h
  | a :: b :: l, h => by
    have := seconds_snoc t x l (by simp at h; omega)
    simp only [List.cons_append, seconds] at this ⊢
    rw [this]

def rng (a b : Nat) : List Int := (List.range' a (b - a)).map fun (i : Nat) => (i : Int)
theorem rng_cons {a b : Nat} (h : a < b) : rng a b = (a : Int) :: rng (a + 1) b := by
  unfold rng; rw [show b - a = (b - (a + 1)) + 1 by omega, List.range'_succ]; rfl
theorem rng_succ {a b : Nat} (h : a ≤ b) : rng a (b + 1) = rng a b ++ [(b : Int)] := by
  unfold rng; rw [show b + 1 - a = (b - a) + 1 by omega, List.range'_concat, List.map_append]
  simp only [Nat.one_mul, show a + (b - a) = b by omega]; rfl
theorem rng_length (a b : Nat) : (rng a b).length = b - a := by unfold rng; simp
theorem rng_nil {a b : Nat} (h : b ≤ a) : rng a b = [] := by unfold rng; rw [show b - a = 0 by omega]; rfl

/-- The state of one channel, behind some sendings and receivings. -/
structure Row (places i sent got asked : Nat) (lay σ ρ : List Int) : Prop where
  all : lay ++ seconds σ = rng got sent
  most : lay.length ≤ places
  full : σ ≠ [] → lay.length = places
  even : σ.length % 2 = 0
  gs : got ≤ sent
  ga : got ≤ asked
  sum : sent + asked = i
  wait : ρ.length = asked - got
  up : ρ.Pairwise (· < ·)
  low : ∀ x ∈ ρ, 0 ≤ x ∧ x < i
  one : got = sent ∨ got = asked

theorem Row.none {places i sent got asked : Nat} {lay σ ρ : List Int} (h : Row places i sent got asked lay σ ρ) (e : got = sent) : lay = [] ∧ σ = [] := by
  have h1 := h.all
  rw [rng_nil (by omega)] at h1
  have h2 := List.append_eq_nil_iff.1 h1
  refine ⟨h2.1, ?_⟩
  have h3 := congrArg List.length h2.2
  rw [seconds_length] at h3
  have := h.even
  exact List.eq_nil_of_length_eq_zero (by simp at h3; omega)

theorem Row.size {places i sent got asked : Nat} {lay σ ρ : List Int} (h : Row places i sent got asked lay σ ρ) : lay.length + σ.length / 2 = sent - got := by
  have h1 := congrArg List.length h.all
  rwa [List.length_append, seconds_length, rng_length] at h1

theorem takeOut_row {places : Nat} {lay σ : List Int} {got sent : Nat} (h : lay ++ seconds σ = rng got sent) (he : σ.length % 2 = 0) (hm : lay.length ≤ places) (hf : σ ≠ [] → lay.length = places) (hlt : got < sent) :
    (takeOut lay σ).1 = got ∧ (takeOut lay σ).2.2.1 ++ seconds (takeOut lay σ).2.2.2 = rng (got + 1) sent ∧ (takeOut lay σ).2.2.1.length ≤ places ∧ ((takeOut lay σ).2.2.2 ≠ [] → (takeOut lay σ).2.2.1.length = places) ∧ (takeOut lay σ).2.2.2.length % 2 = 0 := by
  rw [rng_cons hlt] at h
  cases lay with
  | nil =>
    match σ, h, he, hf with
    | [], h, _, _ => simp [seconds] at h
    | [_], _, he, _ => simp at he
    | a :: c :: σ, h, he, hf =>
      simp only [seconds, List.nil_append, List.cons.injEq] at h
      have hp := hf (by simp)
      simp only [takeOut]
      exact ⟨h.1, h.2, hm, fun _ => hp, by simp at he; omega⟩
  | cons x lay =>
    match σ, h, he, hf with
    | [], h, he, hf =>
      simp only [seconds, List.append_nil, List.cons.injEq] at h
      simp only [takeOut]
      exact ⟨h.1, by simp [seconds, h.2], by simp at hm; omega, fun hh => absurd rfl hh, rfl⟩
    | [_], _, he, _ => simp at he
    | a :: c :: σ, h, he, hf =>
      simp only [seconds, List.cons_append, List.cons.injEq] at h
      have hp := hf (by simp)
      simp only [takeOut]
      refine ⟨h.1, ?_, ?_, ?_, ?_⟩
      · rw [← h.2]; simp
      · simpa using hm
      · intro _; simpa using hp
      · simp at he; omega

theorem del_head {f : Int} {ρ : List Int} (h : (f :: ρ).Pairwise (· < ·)) : del f (f :: ρ) = ρ := by
  have h1 := (List.pairwise_cons.1 h).1
  have : del f ρ = ρ := del_id fun hm => by have := h1 f hm; omega
  unfold del at this ⊢
  rw [List.filter_cons, this]; simp

set_option maxRecDepth 10000 in
set_option maxHeartbeats 8000000 in
theorem row_c {a0 : Int} {l : List Bool} {xl : LV} {v : List Nat} (hx : xl = encB l ∨ (l = [] ∧ (xl = .nils ∨ xl = .emp 1))) (h0 : -9223372036854775808 ≤ a0) (h1 : a0 ≤ 9223372036854775807) :
    aCalls Try.prog 4 [.int .i64 a0, xl] [] v fun y s' v' => y = .bool true ∧ v <+: v' := by
  refine aCalls_of Try.func4 rfl (by decide) (by simp [Try.ntmps4]) false ?_
  have hres : Try.f4.results = #[.tmp 4] := rfl
  simp [Try.ntmps4]
  refine aCalls_mono (by simpa using around_c (m := 9) (by omega) (by omega) h0 h1) ?_
  rintro _ _ _ ⟨n, hn, rfl, rfl, rfl⟩
  simp
  refine aCalls_mono (by simpa using new_c (n := 1) (by omega) (by omega)) ?_
  rintro _ _ _ ⟨q, r, p, hf, rfl, rfl, rfl⟩
  have H : Base (anew [] q r p 1) 4 q r p 1 := anew_base hf (by omega)
  simp [core]
  have e0 : [.cells (core q r p 1), .cells (empt 1), .cells (empt 1), .cells (empt 1), .cells (core q r p 1)] = put (anew [] q r p 1) q r p [[]] [[]] [[]] := (anew_put hf).symm
  simp only [core] at e0
  rw [e0]
  generalize anew [] q r p 1 = s0 at H
  refine aW_loopC false (fun st => ∃ (i sent got asked : Nat) (lay σ ρ : List Int), Row n i sent got asked lay σ ρ ∧ i ≤ l.length ∧ i ≤ 60 ∧ st.t 9 = .int .i64 i ∧ st.t 6 = .int .i64 sent ∧ st.t 7 = .int .i64 got ∧ st.t 8 = .int .i64 asked ∧ st.t 0 = .int .i64 n ∧ st.t 1 = xl ∧ st.t 5 = .ptr 4 0 ∧ put s0 q r p [lay] [σ] [ρ] = st.s ∧ v <+: st.v) (fun st => 60 - numOf (st.t 9)) ?_ ?_
  · exact ⟨0, 0, 0, 0, [], [], [], ⟨rfl, by simp, by simp, rfl, by omega, by omega, rfl, rfl, .nil, by simp, .inl rfl⟩, by omega, by omega, by simp [upd_apply]⟩
  rintro t1 s1 v1 ⟨i, sent, got, asked, lay, σ, ρ, hR, hil, hi60, h9, h6, h7, h8, h0, h1, h5, rfl, hv⟩
  simp only at h9 h6 h7 h8 h0 h1 h5 hv
  have hsz := hR.size
  have hsum := hR.sum
  by_cases hend : i < l.length ∧ i < 60
  · obtain ⟨hi1, hi2⟩ := hend
    have hxe : xl = encB l := by
      rcases hx with e | ⟨e, _⟩
      · exact e
      · subst e; simp at hi1
    subst hxe
    have hi1' : (i : Int) < (l.length : Int) := by omega
    have hi2' : (i : Int) < 60 := by omega
    have hwi := wrap_succ hi2 (by omega)
    have hws : IntKind.i64.wrap ((sent : Int) + 1) = ((sent + 1 : Nat) : Int) := by rw [IntWalk.i64_in _ ⟨by omega, by omega⟩]; omega
    have hwa : IntKind.i64.wrap ((asked : Int) + 1) = ((asked + 1 : Nat) : Int) := by rw [IntWalk.i64_in _ ⟨by omega, by omega⟩]; omega
    have hwg : IntKind.i64.wrap ((got : Int) + 1) = ((got + 1 : Nat) : Int) := by have := hR.gs; rw [IntWalk.i64_in _ ⟨by omega, by omega⟩]; omega
    cases hb : l[i] with
    | true =>
      simp [h9, h6, h7, h8, h0, h1, h5, encB, hi1, hi2', hb]
      cases ρ with
      | cons f ρ =>
        have hwt := hR.wait
        simp at hwt
        have hgs : got = sent := by rcases hR.one with e | e <;> omega
        obtain ⟨rfl, rfl⟩ := hR.none hgs
        subst hgs
        have hf0 := (hR.low f (by simp)).1
        refine aCalls_mono (by simpa using send_meet (ch := 0) (room := n) (t := i) (x := got) (f := f) (ρ := ρ) (B := [[]]) (S := [[]]) (R := [f :: ρ]) H rfl (by simp; omega) rfl) ?_
        rintro _ _ _ ⟨rfl, rfl, rfl⟩
        have hmin : ¬ (asked : Int) < (got : Int) + 1 := by omega
        simp [h9, h6, h7, h8, h0, h1, h5, hf0, hws, hwi, hmin, numOf]
        refine ⟨⟨i + 1, got + 1, got + 1, asked, [], [], ρ, ?_, by omega, by omega, rfl, rfl, rfl, rfl, rfl, by rw [del_head hR.up], hv⟩, by omega⟩
        exact ⟨by rw [rng_nil (Nat.le_refl _)]; rfl, by simp, by simp, rfl, by omega, by omega, by omega, by omega, (List.pairwise_cons.1 hR.up).2, fun x hx => by have := hR.low x (by simp [hx]); omega, .inl rfl⟩
      | nil =>
        have hwt := hR.wait
        simp at hwt
        have hga := hR.ga
        have hgs := hR.gs
        have hgk : got = asked := by omega
        subst hgk
        have hmin : (got : Int) < (sent : Int) + 1 := by omega
        by_cases hroom : lay.length < n
        · have hσ : σ = [] := by
            by_cases e : σ = []
            · exact e
            · have := hR.full e; omega
          subst hσ
          refine aCalls_mono (by simpa using send_lay (ch := 0) (room := n) (t := i) (x := sent) (b := lay) (B := [lay]) (S := [[]]) (R := [[]]) H rfl rfl rfl rfl (by omega) (by omega)) ?_
          rintro _ _ _ ⟨rfl, rfl, hv2⟩
          simp [h9, h6, h7, h8, h0, h1, h5, hws, hwi, hmin, numOf]
          refine ⟨⟨i + 1, sent + 1, got, got, lay ++ [(sent : Int)], [], [], ?_, by omega, by omega, rfl, rfl, rfl, rfl, rfl, rfl, hv.trans hv2⟩, by omega⟩
          have hall := hR.all
          simp [seconds] at hall
          exact ⟨by simp [seconds, hall]; rw [rng_succ hgs], by simp; omega, by simp, rfl, by omega, by omega, by omega, by simp, .nil, by simp, .inr rfl⟩
        · refine aCalls_mono (by simpa using send_wait (ch := 0) (room := n) (t := i) (x := sent) (b := lay) (σ := σ) (B := [lay]) (S := [σ]) (R := [[]]) H rfl rfl rfl rfl rfl (by omega) (by omega)) ?_
          rintro _ _ _ ⟨rfl, rfl, hv2⟩
          simp [h9, h6, h7, h8, h0, h1, h5, hws, hwi, hmin, numOf]
          refine ⟨⟨i + 1, sent + 1, got, got, lay, σ ++ [(i : Int), (sent : Int)], [], ?_, by omega, by omega, rfl, rfl, rfl, rfl, rfl, rfl, hv.trans hv2⟩, by omega⟩
          have hall := hR.all
          have hev := hR.even
          have hmo := hR.most
          exact ⟨by rw [seconds_snoc _ _ _ hev, ← List.append_assoc, hall, rng_succ hgs], hmo, fun _ => by omega, by simp; omega, by omega, by omega, by omega, by simp, .nil, by simp, .inr rfl⟩
    | false =>
      simp [h9, h6, h7, h8, h0, h1, h5, encB, hi1, hi2', hb]
      have hga := hR.ga
      have hgs := hR.gs
      have hev := hR.even
      by_cases hlt : got < sent
      · have hgk : got = asked := by rcases hR.one with e | e <;> omega
        subst hgk
        have hρ : ρ = [] := List.eq_nil_of_length_eq_zero (by rw [hR.wait]; omega)
        subst hρ
        obtain ⟨k1, k2, k3, k4, k5⟩ := takeOut_row hR.all hev hR.most hR.full hlt
        have h0' : 0 < lay.length + σ.length := by omega
        refine aCalls_mono (by simpa using recv_ready (ch := 0) (t := i) (b := lay) (σ := σ) (B := [lay]) (S := [σ]) (R := [[]]) H rfl rfl rfl rfl hev h0' (by omega) (by omega)) ?_
        rintro _ _ _ ⟨rfl, rfl, hv2⟩
        generalize takeOut lay σ = T at k1 k2 k3 k4 k5
        have hnew : Row n (i + 1) sent (got + 1) (got + 1) T.2.2.1 T.2.2.2 [] := ⟨k2, k3, k4, k5, by omega, by omega, by omega, by simp, .nil, by simp, .inr rfl⟩
        by_cases hc : ((got : Int) + 1 < (sent : Int))
        · simp [h9, h6, h7, h8, h0, h1, h5, hwa, hwi, hc, numOf, k1]
          exact ⟨⟨i + 1, sent, got + 1, got + 1, _, _, [], hnew, by omega, by omega, rfl, rfl, rfl, rfl, rfl, rfl, hv.trans hv2⟩, by omega⟩
        · have he : (sent : Int) = (got : Int) + 1 := by omega
          simp [h9, h6, h7, h8, h0, h1, h5, hwa, hwi, he, numOf, k1]
          exact ⟨⟨i + 1, sent, got + 1, got + 1, _, _, [], hnew, by omega, by omega, rfl, he.symm, rfl, rfl, rfl, rfl, hv.trans hv2⟩, by omega⟩
      · have hge : got = sent := by omega
        obtain ⟨rfl, rfl⟩ := hR.none hge
        subst hge
        have hwt := hR.wait
        refine aCalls_mono (by simpa using recv_wait (ch := 0) (t := i) (R := [ρ]) H rfl rfl (by simp; omega) rfl rfl) ?_
        rintro _ _ _ ⟨rfl, rfl, hv2⟩
        have hmin : ¬ (asked : Int) + 1 < (got : Int) := by omega
        simp [h9, h6, h7, h8, h0, h1, h5, hwa, hwi, hmin, numOf]
        refine ⟨⟨i + 1, got, got, asked + 1, [], [], ρ ++ [(i : Int)], ?_, by omega, by omega, rfl, rfl, rfl, rfl, rfl, rfl, hv.trans hv2⟩, by omega⟩
        refine ⟨hR.all, by simp, by simp, rfl, by omega, by omega, by omega, by simp; omega, ?_, ?_, .inl rfl⟩
        · rw [List.pairwise_append]
          exact ⟨hR.up, by simp, fun a ha b hb => by simp at hb; subst hb; exact (hR.low a ha).2⟩
        · intro x hx
          rcases List.mem_append.1 hx with hx | hx
          · have := hR.low x hx; omega
          · simp at hx; omega
  · have fin : ∀ w, v <+: w → aCalls Try.prog 13 [] (put s0 q r p [lay] [σ] [ρ]) w fun y _ v' => y = .bool true ∧ v <+: v' := fun w hw =>
      aCalls_mono (lives_c (s := put s0 q r p [lay] [σ] [ρ]) (v := w)) fun _ _ _ h => ⟨h.1, hw.trans h.2.2⟩
    by_cases hi1 : i < l.length
    · have hi2 : ¬ (i : Int) < 60 := by omega
      have hxe : xl = encB l := by
        rcases hx with e | ⟨e, _⟩
        · exact e
        · subst e; simp at hi1
      subst hxe
      simp [h9, h1, encB, hi1, hi2]
      refine aCalls_mono (fin _ hv) ?_
      rintro _ _ _ ⟨rfl, hv3⟩
      simp [hres]
      exact hv3
    · rcases hx with e | ⟨e, e2 | e2⟩
      · subst e
        simp [h9, h1, encB, hi1]
        refine aCalls_mono (fin _ hv) ?_
        rintro _ _ _ ⟨rfl, hv3⟩
        simp [hres]
        exact hv3
      all_goals
        subst e; subst e2
        have : i = 0 := by simpa using hil
        subst this
        simp [h9, h1]
        refine aCalls_mono (fin _ hv) ?_
        rintro _ _ _ ⟨rfl, hv3⟩
        simp [hres]
        exact hv3
end Go.Hb
