/-
  A layer for reasoning about the program's calls, and contracts of its functions (D2). CONDITIONS: none; each theorem bears its own.
-/
import Derived.Test.YtodibkcciihodaaD1
set_option linter.unusedVariables false
set_option linter.unusedSimpArgs false
section
namespace Go.Hb
open Go Go.Proofs Go.RowKit
attribute [-simp] aC aL aOper aThen aInBlock aIf aPlan aAppend

/-! ### a timer sinks -/
def kid (ts : List Tm) (i : Nat) : Nat := if 2 * i + 2 < ts.length ∧ lt2 (tg ts (2 * i + 2)) (tg ts (2 * i + 1)) = true then 2 * i + 2 else 2 * i + 1
def kidN (ts : List Tm) (i : Nat) : Nat := if 2 * i + 2 < ts.length then 2 else 1
theorem kid_lt {ts : List Tm} {i : Nat} (h : 2 * i + 1 < ts.length) : kid ts i < ts.length := by unfold kid; split <;> omega
theorem kid_gt (ts : List Tm) (i : Nat) : 2 * i + 1 ≤ kid ts i ∧ kid ts i ≤ 2 * i + 2 := by unfold kid; split <;> omega
def downL (ts : List Tm) (i : Nat) : List Tm × Nat × Nat :=
  if h : 2 * i + 1 < ts.length then
    if lt2 (tg ts (kid ts i)) (tg ts i) = true then ((downL (swp ts i (kid ts i)) (kid ts i)).1, (downL (swp ts i (kid ts i)) (kid ts i)).2.1, (downL (swp ts i (kid ts i)) (kid ts i)).2.2 + kidN ts i) else (ts, i, kidN ts i)
  else (ts, i, 0)
termination_by ts.length - i
decreasing_by all_goals (rw [swp_len]; have := kid_gt ts i; omega)

section
variable {s : List AObj} {v : List Nat} {hp mid l : Nat} {ts r : List Tm} {st : Int}

set_option maxRecDepth 10000 in
set_option maxHeartbeats 8000000 in
theorem down_c (H : HI s hp mid l ts r st) {i : Nat} (hi : i ≤ ts.length) (hst : 0 ≤ st ∧ st ≤ 500000000) :
    aCalls Try.prog 34 [.ptr hp 0, .int .i64 i] s v (HPost s hp mid l (downL ts i).1 r (st + (downL ts i).2.2) v) := by
  refine aCalls_of Try.func34 rfl (by decide) (by simp [Try.ntmps34]) false ?_
  have hres : Try.f34.results = #[] := rfl
  obtain ⟨f, HL0, hI0⟩ := H.ex
  have hsm := HL0.small
  simp [Try.ntmps34]
  refine aW_forC false ts.length (fun d st' => ∃ j ts' f' n, d ≤ j ∧ j ≤ ts.length ∧ ts'.length = ts.length ∧ HL st'.s hp mid l ts' r f' (st + (n : Nat)) ∧ Idx ts' f' ∧ (downL ts' j).1 = (downL ts i).1 ∧ n + (downL ts' j).2.2 = (downL ts i).2.2 ∧ n ≤ 2 * j ∧ st'.t 0 = .ptr hp 0 ∧ st'.t 1 = .int .i64 j ∧ Same hp mid (some l) s st'.s ∧ st'.s.length = s.length ∧ v = st'.v) ?_ ?_
  · exact ⟨0, Nat.zero_le _, i, ts, f, 0, Nat.zero_le _, hi, rfl, by simpa using HL0, hI0, rfl, by simp, by omega, by simp [upd_apply], by simp [upd_apply], Same.refl _ _ _ _, rfl, rfl⟩
  rintro d t1 s1 v1 hd ⟨j, ts', f', n, hdj, hjl, hlen, HL1, hI1, e1, e2, e3, h0, h1, hS, hsl, rfl⟩
  simp only at HL1 h0 h1 hS hsl
  have w1 : IntKind.i64.wrap (2 * (j : Int)) = 2 * (j : Int) := IntWalk.i64_in _ ⟨by omega, by omega⟩
  have w2 : IntKind.i64.wrap (2 * (j : Int) + 1) = ((2 * j + 1 : Nat) : Int) := by rw [IntWalk.i64_in _ ⟨by omega, by omega⟩]; omega
  have w3 : IntKind.i64.wrap (((2 * j + 1 : Nat) : Int) + 1) = ((2 * j + 2 : Nat) : Int) := by rw [IntWalk.i64_in _ ⟨by omega, by omega⟩]; omega
  obtain ⟨a, ha⟩ : ∃ a, a = 2 * j + 1 := ⟨_, rfl⟩
  obtain ⟨b, hb⟩ : ∃ b, b = 2 * j + 2 := ⟨_, rfl⟩
  rw [← ha] at w2 w3
  rw [← hb] at w3
  rw [downL] at e1 e2
  by_cases hal : a < ts'.length
  · have hal' : (a : Int) < (ts'.length : Int) := by omega
    have hge : ¬ ((ts'.length : Int) ≤ (a : Int)) := by omega
    have hge2 : ¬ (ts'.length ≤ a) := by omega
    have hjl2 : j < ts'.length := by omega
    rw [dif_pos (by omega)] at e1 e2
    have ga := tg_eq hal
    have gj := tg_eq hjl2
    simp [h0, h1, HL1.hh, w1, w2, hal, hge2, w3]
    by_cases hbl : b < ts'.length
    · have gb := tg_eq hbl
      have hbl' : (b : Int) < (ts'.length : Int) := by omega
      simp [hbl, h0, h1, w3]
      refine aCalls_mono (less_c HL1 hbl hal (by omega)) ?_
      rintro _ _ _ ⟨rfl, rfl, rfl⟩
      have HL2 := HL1.step (st + (n : Nat) + 1)
      have hS2 := hS.trans (same_set hp mid (some l) s1 (hcell l ts'.length mid (st + (n : Nat) + 1)) (.inl rfl))
      have hkn : kidN ts' j = 2 := by unfold kidN; rw [if_pos (by omega)]
      cases hlt : lt2 ts'[b] ts'[a] with
      | true =>
        have hk : kid ts' j = b := by unfold kid; rw [← hb, ← ha, gb, ga, if_pos ⟨hbl, hlt⟩]
        rw [hk, hkn, gb, gj] at e1 e2
        simp [h0, h1, w3]
        refine aCalls_mono (less_c HL2 hbl hjl2 (by omega)) ?_
        rintro _ _ _ ⟨rfl, rfl, rfl⟩
        have HL3 := HL2.step (st + (n : Nat) + 1 + 1)
        have hS3 := hS2.trans (same_set hp mid (some l) _ (hcell l ts'.length mid (st + (n : Nat) + 1 + 1)) (.inl rfl))
        cases hlt2 : lt2 ts'[b] ts'[j] with
        | false =>
          rw [hlt2] at e1 e2
          simp at e1 e2
          simp [h0, h1, hres]
          exact ⟨rfl, ⟨f', by rw [← e1, ← e2]; simpa [Int.add_assoc] using HL3, by rw [← e1]; exact hI1⟩, by simpa using hS3, by simpa using hsl, rfl⟩
        | true =>
          rw [hlt2] at e1 e2
          simp only [if_true] at e1 e2
          simp [h0, h1]
          refine aCalls_mono (by simpa using swap_c HL3 hjl2 hbl) ?_
          rintro _ _ _ ⟨rfl, rfl, rfl⟩
          simp [h0, h1]
          refine hid ⟨by omega, b, swp ts' j b, swpF ts' f' j b, n + 2, by omega, by omega, by rw [swp_len]; exact hlen, ?_, hI1.swap hjl2 hbl, e1, by omega, by omega, by simp [upd_apply, h0], by simp [upd_apply], by simpa using hS3.trans (swapS_same _ _ _ _ _ _ _ _ _), by rw [swapS_len]; simpa using hsl, rfl⟩
          have := HL3.swap hjl2 hbl
          simpa [Int.add_assoc] using this
      | false =>
        have hk : kid ts' j = a := by unfold kid; rw [← hb, ← ha, gb, ga, if_neg (fun h => by rw [hlt] at h; exact absurd h.2 (by simp))]
        rw [hk, hkn, ga, gj] at e1 e2
        simp [h0, h1]
        refine aCalls_mono (less_c HL2 hal hjl2 (by omega)) ?_
        rintro _ _ _ ⟨rfl, rfl, rfl⟩
        have HL3 := HL2.step (st + (n : Nat) + 1 + 1)
        have hS3 := hS2.trans (same_set hp mid (some l) _ (hcell l ts'.length mid (st + (n : Nat) + 1 + 1)) (.inl rfl))
        cases hlt2 : lt2 ts'[a] ts'[j] with
        | false =>
          rw [hlt2] at e1 e2
          simp at e1 e2
          simp [h0, h1, hres]
          exact ⟨rfl, ⟨f', by rw [← e1, ← e2]; simpa [Int.add_assoc] using HL3, by rw [← e1]; exact hI1⟩, by simpa using hS3, by simpa using hsl, rfl⟩
        | true =>
          rw [hlt2] at e1 e2
          simp only [if_true] at e1 e2
          simp [h0, h1]
          refine aCalls_mono (by simpa using swap_c HL3 hjl2 hal) ?_
          rintro _ _ _ ⟨rfl, rfl, rfl⟩
          simp [h0, h1]
          refine hid ⟨by omega, a, swp ts' j a, swpF ts' f' j a, n + 2, by omega, by omega, by rw [swp_len]; exact hlen, ?_, hI1.swap hjl2 hal, e1, by omega, by omega, by simp [upd_apply, h0], by simp [upd_apply], by simpa using hS3.trans (swapS_same _ _ _ _ _ _ _ _ _), by rw [swapS_len]; simpa using hsl, rfl⟩
          have := HL3.swap hjl2 hal
          simpa [Int.add_assoc] using this
    · have hkn : kidN ts' j = 1 := by unfold kidN; rw [if_neg (by omega)]
      have hk : kid ts' j = a := by unfold kid; rw [← hb, ← ha, if_neg (fun h => hbl h.1)]
      rw [hk, hkn, ga, gj] at e1 e2
      simp [hbl, h0, h1]
      refine aCalls_mono (less_c HL1 hal hjl2 (by omega)) ?_
      rintro _ _ _ ⟨rfl, rfl, rfl⟩
      have HL2 := HL1.step (st + (n : Nat) + 1)
      have hS2 := hS.trans (same_set hp mid (some l) s1 (hcell l ts'.length mid (st + (n : Nat) + 1)) (.inl rfl))
      cases hlt2 : lt2 ts'[a] ts'[j] with
      | false =>
        rw [hlt2] at e1 e2
        simp at e1 e2
        simp [h0, h1, hres]
        exact ⟨rfl, ⟨f', by rw [← e1, ← e2]; simpa [Int.add_assoc] using HL2, by rw [← e1]; exact hI1⟩, hS2, by simpa using hsl, rfl⟩
      | true =>
        rw [hlt2] at e1 e2
        simp only [if_true] at e1 e2
        simp [h0, h1]
        refine aCalls_mono (swap_c HL2 hjl2 hal) ?_
        rintro _ _ _ ⟨rfl, rfl, rfl⟩
        simp [h0, h1]
        refine hid ⟨by omega, a, swp ts' j a, swpF ts' f' j a, n + 1, by omega, by omega, by rw [swp_len]; exact hlen, ?_, hI1.swap hjl2 hal, e1, by omega, by omega, by simp [upd_apply, h0], by simp [upd_apply], hS2.trans (swapS_same _ _ _ _ _ _ _ _ _), by rw [swapS_len]; simpa using hsl, rfl⟩
        have := HL2.swap hjl2 hal
        simpa [Int.add_assoc] using this
  · have hge : ((ts'.length : Int) ≤ (a : Int)) := by omega
    have hge2 : ts'.length ≤ a := by omega
    rw [dif_neg (by omega)] at e1 e2
    simp at e1 e2
    simp [h0, h1, HL1.hh, w1, w2, hge2, hres]
    exact ⟨rfl, ⟨f', by rw [← e1, ← e2]; exact HL1, by rw [← e1]; exact hI1⟩, hS, hsl, rfl⟩
end
end Go.Hb
end

section
namespace Go.Hb
open Go Go.Proofs Go.RowKit
attribute [-simp] aC aL aOper aThen aInBlock aIf aPlan aAppend

theorem up_len (ts : List Tm) (i : Nat) : (upL ts i).1.length = ts.length := by
  induction i using Nat.strongRecOn generalizing ts with
  | _ i ih =>
    rw [upL]
    split
    · rfl
    · split
      · rw [ih _ (by omega), swp_len]
      · rfl
theorem up_at {ts : List Tm} {i : Nat} (hi : i < ts.length) : (upL ts i).2.1 < ts.length ∧ tg (upL ts i).1 (upL ts i).2.1 = tg ts i := by
  induction i using Nat.strongRecOn generalizing ts with
  | _ i ih =>
    rw [upL]
    split
    · rename_i h; subst h; exact ⟨hi, rfl⟩
    · split
      · have hk : (i - 1) / 2 < ts.length := by omega
        obtain ⟨h1, h2⟩ := ih ((i - 1) / 2) (by omega) (ts := swp ts i ((i - 1) / 2)) (by rw [swp_len]; exact hk)
        refine ⟨by rw [swp_len] at h1; exact h1, ?_⟩
        rw [h2, swp_get hi hk, if_pos rfl]
      · exact ⟨hi, rfl⟩
theorem down_len (ts : List Tm) (i : Nat) : (downL ts i).1.length = ts.length := by
  induction h : ts.length - i using Nat.strongRecOn generalizing ts i with
  | _ n ih =>
    rw [downL]
    split
    · rename_i h1
      have hk := kid_gt ts i
      split
      · rw [ih _ (by subst h; rw [swp_len]; omega) _ _ rfl, swp_len]
      · rfl
    · rfl

def fixL (ts : List Tm) (i : Nat) : List Tm := (downL (upL ts i).1 (upL ts i).2.1).1
def fixN (ts : List Tm) (i : Nat) : Nat := (upL ts i).2.2 + (downL (upL ts i).1 (upL ts i).2.1).2.2

theorem up_count (ts : List Tm) (i : Nat) : (upL ts i).2.2 ≤ i := by
  induction i using Nat.strongRecOn generalizing ts with
  | _ i ih =>
    rw [upL]
    split
    · simp
    · split
      · have := ih ((i - 1) / 2) (by omega) (swp ts i ((i - 1) / 2)); simp only; omega
      · simp only; omega

theorem HI.len {s : List AObj} {hp mid l : Nat} {ts r : List Tm} {st : Int} (H : HI s hp mid l ts r st) : ts.length ≤ 100000 := by obtain ⟨f, h, _⟩ := H.ex; exact h.small

section
variable {s : List AObj} {v : List Nat} {hp mid l : Nat} {ts r : List Tm} {st : Int}

set_option maxRecDepth 10000 in
set_option maxHeartbeats 8000000 in
theorem fix_c (H : HI s hp mid l ts r st) {i : Nat} (hi : i < ts.length) (hst : 0 ≤ st ∧ st ≤ 400000000) :
    aCalls Try.prog 28 [.ptr hp 0, .int .i64 i] s v (HPost s hp mid l (fixL ts i) r (st + fixN ts i) v) := by
  refine aCalls_of Try.func28 rfl (by decide) (by simp [Try.ntmps28]) false ?_
  have hres : Try.f28.results = #[] := rfl
  obtain ⟨f, HL0, hI0⟩ := H.ex
  have hsm := HL0.small
  have hi' : (i : Int) < (ts.length : Int) := by omega
  have hfl := flat_len ts
  have g1 := flat_get1 ts i hi (flat r)
  have b1 : i * 2 + 1 < ts.length * 2 + (flat r).length := by omega
  have hup := up_c (v := v) H hi (by omega)
  have hc := up_count ts i
  obtain ⟨ua, ub⟩ := up_at hi
  have ul := up_len ts i
  simp [Try.ntmps28, HL0.hh, HL0.hl, hi', hi, hfl, g1]
  refine aCalls_mono hup ?_
  rintro _ s1 _ ⟨rfl, H1, hS1, hsl1, rfl⟩
  obtain ⟨f1, HL1, hI1⟩ := H1.ex
  have hk : f1 ts[i].2 = some (.int .i64 ((upL ts i).2.1 : Nat)) := by
    have := hI1.at_ (upL ts i).2.1 (by rw [ul]; exact ua)
    rwa [ub, tg_eq hi] at this
  simp [HL1.hh, HL1.hm, hk]
  refine aCalls_mono (down_c (v := v) H1 (i := (upL ts i).2.1) (by rw [ul]; omega) (by omega)) ?_
  rintro _ s2 _ ⟨rfl, H2, hS2, hsl2, rfl⟩
  simp [hres]
  refine ⟨rfl, ?_, hS1.trans hS2, by omega, rfl⟩
  have e : st + ((upL ts i).2.2 : Nat) + ((downL (upL ts i).1 (upL ts i).2.1).2.2 : Nat) = st + (fixN ts i : Nat) := by unfold fixN; omega
  rw [e] at H2; exact H2
end
end Go.Hb
end

section
namespace Go.Hb
open Go Go.Proofs Go.RowKit
attribute [-simp] aC aL aOper aThen aInBlock aIf aPlan aAppend

/-- A heap in memory, empty without a row, or with one. -/
def HT (s : List AObj) (hp mid : Nat) (lo : Option Nat) (ts : List Tm) (st : Int) : Prop := match lo with
  | none => ts = [] ∧ s[hp]? = some (.cells [.nils, .mapr mid, .int .i64 st]) ∧ s[mid]? = some (.map fun _ => none) ∧ hp ≠ mid
  | some l => ∃ r, HI s hp mid l ts r st

theorem same_chain {hp mid : Nat} {lo lo' : Option Nat} {a b c : List AObj} (h : Same hp mid lo a b) (k : Same hp mid lo' b c) (hl : lo' = lo ∨ ∃ l', lo' = some l' ∧ a.length ≤ l') : Same hp mid lo a c :=
  ⟨Nat.le_trans h.1 k.1, fun i hi h1 h2 h3 => (k.2 i (Nat.lt_of_lt_of_le hi h.1) h1 h2 (by
    rcases hl with rfl | ⟨l', rfl, hl'⟩
    · exact h3
    · intro e; cases e; omega)).trans (h.2 i hi h1 h2 h3)⟩

/-- Where a key stands. -/
def find (ts : List Tm) (key : Int) : Option Nat := ts.findIdx? fun t => decide (t.2 = key)
theorem find_some {ts : List Tm} {key : Int} {i : Nat} (h : find ts key = some i) : i < ts.length ∧ (tg ts i).2 = key := by
  obtain ⟨h1, h2, _⟩ := List.findIdx?_eq_some_iff_getElem.1 h
  exact ⟨h1, by rw [tg_eq h1]; simpa using h2⟩
theorem find_none {ts : List Tm} {key : Int} (h : find ts key = none) : ∀ i, i < ts.length → (tg ts i).2 ≠ key := by
  intro i hi
  have := List.findIdx?_eq_none_iff.1 h ts[i] (List.getElem_mem hi)
  rw [tg_eq hi]; simpa using this
theorem Idx.find {ts : List Tm} {f : Int → Option LV} (h : Idx ts f) (key : Int) : f key = (find ts key).map fun i => .int .i64 (i : Int) := by
  cases hf : Hb.find ts key with
  | some i =>
    obtain ⟨h1, h2⟩ := find_some hf
    rw [← h2]; simpa using h.at_ i h1
  | none =>
    cases hk : f key with
    | none => rfl
    | some x =>
      obtain ⟨i, h1, h2⟩ := h.in_ key x hk
      exact absurd h2 (find_none hf i h1)

section
variable {s : List AObj} {v : List Nat} {hp mid l : Nat} {lo : Option Nat} {ts r : List Tm} {st : Int}

theorem new_c : aCalls Try.prog 8 [] s v fun y s' v' => y = .ptr (s.length + 1) 0 ∧ s ++ [.map fun _ => none, .cells [.nils, .mapr s.length, .int .i64 0]] = s' ∧ v = v' := by
  refine aCalls_of Try.func8 rfl (by decide) (by simp) false ?_
  have hres : Try.f8.results = #[.tmp 0] := rfl
  have p1 : placeT Try.prog 56 1 = some (1, 1) := by kernel_rfl
  have p2 : sizesT Try.prog 56 = true := by kernel_rfl
  simp [Try.ntmps8, hres, p1, p2]

theorem new_HT : HT (s ++ [.map fun _ => none, .cells [.nils, .mapr s.length, .int .i64 0]]) (s.length + 1) s.length none [] 0 :=
  ⟨rfl, by rw [get_app]; rfl, by rw [get_app0]; rfl, by omega⟩

theorem len_c (H : HT s hp mid lo ts st) : aCalls Try.prog 16 [.ptr hp 0] s v fun y s' v' => y = .int .i64 ts.length ∧ s = s' ∧ v = v' := by
  refine aCalls_of Try.func16 rfl (by decide) (by simp [Try.ntmps16]) false ?_
  have hres : Try.f16.results = #[.tmp 2] := rfl
  cases lo with
  | none => obtain ⟨rfl, h1, h2, h3⟩ := H; simp [Try.ntmps16, h1, hres]
  | some l => obtain ⟨r, f, h, _⟩ := H; simp [Try.ntmps16, h.hh, hres]

theorem steps_c (H : HT s hp mid lo ts st) : aCalls Try.prog 20 [.ptr hp 0] s v fun y s' v' => y = .int .i64 st ∧ s = s' ∧ v = v' := by
  refine aCalls_of Try.func20 rfl (by decide) (by simp [Try.ntmps20]) false ?_
  have hres : Try.f20.results = #[.tmp 2] := rfl
  cases lo with
  | none => obtain ⟨rfl, h1, h2, h3⟩ := H; simp [Try.ntmps20, h1, hres]
  | some l => obtain ⟨r, f, h, _⟩ := H; simp [Try.ntmps20, h.hh, hres]

def firstV (ts : List Tm) : LV := match ts with | [] => .tup [.int .i64 0, .int .i64 0, .bool false] | t :: _ => .tup [.int .i64 t.2, .int .i64 t.1, .bool true]

set_option maxRecDepth 10000 in
set_option maxHeartbeats 4000000 in
theorem first_c (H : HT s hp mid lo ts st) : aCalls Try.prog 25 [.ptr hp 0] s v fun y s' v' => y = firstV ts ∧ s = s' ∧ v = v' := by
  refine aCalls_of Try.func25 rfl (by decide) (by simp [Try.ntmps25]) false ?_
  have hres : Try.f25.results = #[.tmp 2, .tmp 3, .tmp 4] := rfl
  cases lo with
  | none => obtain ⟨rfl, h1, h2, h3⟩ := H; simp [Try.ntmps25, h1, hres, firstV]
  | some l =>
    obtain ⟨r, f, h, _⟩ := H
    cases ts with
    | nil => simp [Try.ntmps25, h.hh, hres, firstV]
    | cons t ts =>
      have hl := h.hl
      have e : flat (t :: ts) ++ flat r = .int .i64 t.1 :: .int .i64 t.2 :: (flat ts ++ flat r) := by simp [flat, tc]
      rw [e] at hl
      have hlen : (0 : Int) < (ts.length : Int) + 1 := by omega
      have hne : ¬ ((ts.length : Int) + 1 = 0) := by omega
      simp [Try.ntmps25, h.hh, hne]
      refine aW_draw' (.qs [0, 1, 2, 3, 4, 5, 6, 7, 8, 9, 10, 11, 12, 13, 14, 15, 16] .nil) mixed (by kernel_rfl) (by kernel_rfl) ?_
      simp [h.hh, hl, hlen, hres, firstV]

def atV (ts : List Tm) (key : Int) : LV := match find ts key with | none => .tup [.int .i64 0, .bool false] | some i => .tup [.int .i64 (tg ts i).1, .bool true]

set_option maxRecDepth 10000 in
set_option maxHeartbeats 4000000 in
theorem at_c (H : HT s hp mid lo ts st) {key : Int} : aCalls Try.prog 26 [.ptr hp 0, .int .i64 key] s v fun y s' v' => y = atV ts key ∧ s = s' ∧ v = v' := by
  refine aCalls_of Try.func26 rfl (by decide) (by simp [Try.ntmps26]) false ?_
  have hres : Try.f26.results = #[.tmp 4, .tmp 5] := rfl
  cases lo with
  | none => obtain ⟨rfl, h1, h2, h3⟩ := H; simp [Try.ntmps26, h1, h2, hres, atV, find]
  | some l =>
    obtain ⟨r, f, h, hI⟩ := H
    have hk := hI.find key
    unfold atV
    cases hf : find ts key with
    | none => rw [hf] at hk; simp [Try.ntmps26, h.hh, h.hm, hk, hres]
    | some i =>
      rw [hf] at hk
      obtain ⟨hi, _⟩ := find_some hf
      have hi' : (i : Int) < (ts.length : Int) := by omega
      have hfl := flat_len ts
      have g0 := flat_get0 ts i hi (flat r)
      have b1 : i * 2 < ts.length * 2 + (flat r).length := by omega
      simp at hk
      simp [Try.ntmps26, h.hh, h.hm, h.hl, hk, hres, hi, hi', hfl, g0, tg_eq hi]
end
end Go.Hb
end

