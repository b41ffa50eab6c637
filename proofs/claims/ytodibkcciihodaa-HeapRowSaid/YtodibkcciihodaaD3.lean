/-
  A layer for reasoning about the program's calls, and contracts of its functions (D3). CONDITIONS: none; each theorem bears its own.
-/
import Derived.Test.YtodibkcciihodaaD2
set_option linter.unusedVariables false
set_option linter.unusedSimpArgs false
section
namespace Go.Hb
open Go Go.Proofs Go.RowKit
attribute [-simp] aC aL aOper aThen aInBlock aIf aPlan aAppend

def setP (ts : List Tm) (key at_ : Int) : List Tm × Nat := match find ts key with | some i => (ts.set i (at_, key), i) | none => (ts ++ [(at_, key)], ts.length)
def setL (ts : List Tm) (key at_ : Int) : List Tm := fixL (setP ts key at_).1 (setP ts key at_).2
def setN (ts : List Tm) (key at_ : Int) : Nat := fixN (setP ts key at_).1 (setP ts key at_).2

theorem Idx.put {ts : List Tm} {f : Int → Option LV} (h : Idx ts f) (key at_ : Int) : Idx (setP ts key at_).1 (fput f key (.int .i64 ((setP ts key at_).2 : Nat))) := by
  unfold setP
  cases hf : Hb.find ts key with
  | some i =>
    obtain ⟨hi, hk⟩ := find_some hf
    have gt : ∀ j, tg (ts.set i (at_, key)) j = if i = j then (at_, key) else tg ts j := fun j => by
      unfold tg
      rw [List.getD_eq_getElem?_getD, List.getElem?_set]
      by_cases h1 : i = j
      · subst h1; simp [hi]
      · rw [if_neg h1, if_neg h1, List.getD_eq_getElem?_getD]
    constructor
    · intro j hj
      have hj' : j < ts.length := by simpa using hj
      simp only [gt]
      unfold fput
      by_cases h1 : i = j
      · subst h1; simp
      · rw [if_neg h1]
        have : ¬ (tg ts j).2 = key := fun e => h1 (h.inj hi hj' (hk.trans e.symm))
        rw [if_neg this]; exact h.at_ j hj'
    · intro k x hx
      unfold fput at hx
      split at hx
      · rename_i e; exact ⟨i, by simpa using hi, by simp only [gt]; simp [e]⟩
      · rename_i e
        obtain ⟨j, hj, ej⟩ := h.in_ k x hx
        refine ⟨j, by simpa using hj, ?_⟩
        simp only [gt]
        by_cases h1 : i = j
        · subst h1; exact absurd (ej.symm.trans hk) e
        · rw [if_neg h1]; exact ej
  | none =>
    have hn := find_none hf
    have gt : ∀ j, tg (ts ++ [(at_, key)]) j = if j < ts.length then tg ts j else if j = ts.length then (at_, key) else (0, 0) := fun j => by
      unfold tg
      rw [List.getD_eq_getElem?_getD]
      by_cases h1 : j < ts.length
      · rw [if_pos h1, List.getElem?_append_left h1, List.getD_eq_getElem?_getD]
      · rw [if_neg h1, List.getElem?_append_right (by omega)]
        by_cases h2 : j = ts.length
        · subst h2; simp
        · rw [if_neg h2, List.getElem?_eq_none (by simp; omega)]; rfl
    constructor
    · intro j hj
      have hj' : j < ts.length + 1 := by simpa using hj
      simp only [gt]
      unfold fput
      by_cases h1 : j < ts.length
      · rw [if_pos h1, if_neg (hn j h1)]; exact h.at_ j h1
      · have : j = ts.length := by omega
        subst this; simp
    · intro k x hx
      unfold fput at hx
      split at hx
      · rename_i e; exact ⟨ts.length, by simp, by simp only [gt]; simp [e]⟩
      · obtain ⟨j, hj, ej⟩ := h.in_ k x hx
        exact ⟨j, by simp; omega, by simp only [gt]; rw [if_pos hj]; exact ej⟩

section
variable {s : List AObj} {v : List Nat} {hp mid l : Nat} {lo : Option Nat} {ts r : List Tm} {st : Int}

theorem flat_app (a b : List Tm) : flat (a ++ b) = flat a ++ flat b := by simp [flat]

def SPost (s : List AObj) (hp mid : Nat) (lo : Option Nat) (ts : List Tm) (st : Int) (x : LV) (v : List Nat) (y : LV) (s' : List AObj) (v' : List Nat) : Prop :=
  ∃ l', y = x ∧ HT s' hp mid (some l') ts st ∧ Same hp mid lo s s' ∧ (some l' = lo ∨ s.length ≤ l') ∧ v = v'

def EP (s1 : List AObj) (hp mid l : Nat) (ts : List Tm) (st : Int) (v : List Nat) (y : LV) (s' : List AObj) (v' : List Nat) : Prop := y = .tup [] ∧ HT s' hp mid (some l) ts st ∧ Same hp mid (some l) s1 s' ∧ v = v'

/-- The end of Set: the timer is put at its place, and comes to where it must stand. -/
theorem set_end {s1 : List AObj} {f : Int → Option LV} (H : HL s1 hp mid l ts r f st) {i : Nat} (hi : i < ts.length) {t : Tm} (hI : Idx (ts.set i t) (fput f t.2 (.int .i64 (i : Nat)))) (hst : 0 ≤ st ∧ st ≤ 400000000) :
    aCalls Try.prog 27 [.ptr hp 0, .int .i64 i, .agg (tc t)] s1 v fun y s2 v2 => y = .tup [] ∧ aCalls Try.prog 28 [.ptr hp 0, .int .i64 i] s2 v2 (EP s1 hp mid l (fixL (ts.set i t) i) (st + fixN (ts.set i t) i) v) := by
  refine aCalls_mono (put_c (v := v) H hi (t := t)) ?_
  rintro _ s2 _ ⟨rfl, rfl, rfl⟩
  have H2 := H.put hi t
  refine ⟨rfl, aCalls_mono (fix_c (v := v) ⟨_, H2, hI⟩ (i := i) (by simpa using hi) hst) ?_⟩
  rintro _ s3 _ ⟨rfl, H3, hS3, hl3, rfl⟩
  refine ⟨rfl, ⟨_, H3⟩, Same.trans ?_ hS3, rfl⟩
  unfold putS
  exact (same_set hp mid (some l) s1 _ (.inr (.inr rfl))).trans (same_set _ _ _ _ _ (.inr (.inl rfl)))

set_option maxRecDepth 10000 in
set_option maxHeartbeats 8000000 in
theorem set_c (H : HT s hp mid lo ts st) {key at_ : Int} (hts : ts.length < 100000) (hst : 0 ≤ st ∧ st ≤ 400000000) :
    aCalls Try.prog 10 [.ptr hp 0, .int .i64 key, .int .i64 at_] s v (SPost s hp mid lo (setL ts key at_) (st + setN ts key at_) (.bool (find ts key).isSome) v) := by
  refine aCalls_of Try.func10 rfl (by decide) (by simp [Try.ntmps10]) true ?_
  have hres : Try.f10.results = #[.tmp 6] := rfl
  have p0 : placeT Try.prog 58 0 = some (0, 1) := by kernel_rfl
  have p1 : placeT Try.prog 58 1 = some (1, 1) := by kernel_rfl
  have p2 : sizesT Try.prog 58 = true := by kernel_rfl
  cases hf : find ts key with
  | some i =>
    obtain ⟨hi, hk⟩ := find_some hf
    cases lo with
    | none => obtain ⟨rfl, _⟩ := H; simp at hi
    | some l =>
      obtain ⟨r, f, h, hI⟩ := H
      have hkf := hI.find key
      rw [hf] at hkf
      simp at hkf
      have hP := hI.put key at_
      have hse := set_end (v := v) h hi (t := (at_, key)) (by unfold setP at hP; rw [hf] at hP; exact hP) hst
      simp [Try.ntmps10, h.hh, h.hm, hkf, p0, p1, p2]
      refine aCalls_mono hse ?_
      rintro _ s2 v2 ⟨rfl, h2⟩
      simp
      refine aCalls_mono h2 ?_
      rintro _ s3 _ ⟨rfl, h1, h2, rfl⟩
      simp [hres]
      refine ⟨l, rfl, ?_, h2, .inl rfl, rfl⟩
      unfold setL setN setP; rw [hf]; exact h1
  | none =>
    have hse : ∀ {s1 : List AObj} {f : Int → Option LV} {l : Nat}, HL s1 hp mid l (ts ++ [(0, 0)]) [] f st → Idx ts f →
        aCalls Try.prog 27 [.ptr hp 0, .int .i64 ts.length, .agg (tc (at_, key))] s1 v fun y s2 v2 => y = .tup [] ∧ aCalls Try.prog 28 [.ptr hp 0, .int .i64 ts.length] s2 v2 (EP s1 hp mid l (setL ts key at_) (st + setN ts key at_) v) := fun {s1 f l} h hI => by
      have hP := hI.put key at_
      have e : (ts ++ [(0, 0)]).set ts.length (at_, key) = ts ++ [(at_, key)] := by simp
      have h1 := set_end (v := v) h (i := ts.length) (by simp) (t := (at_, key)) (by rw [e]; unfold setP at hP; rw [hf] at hP; exact hP) hst
      rw [e] at h1
      unfold setL setN setP; rw [hf]; exact h1
    cases lo with
    | none =>
      obtain ⟨rfl, h1, h2, h3⟩ := H
      have hm1 := (List.getElem?_eq_some_iff.1 h1).1
      have hm2 := (List.getElem?_eq_some_iff.1 h2).1
      have q1 : ∀ J, (s ++ J)[hp]? = s[hp]? := fun J => List.getElem?_append_left hm1
      have m1 : (1 : Nat) ≤ maxLen := by decide
      simp [Try.ntmps10, h1, h2, p0, p1, p2, q1, m1]
      have e0 : (s ++ [AObj.cells [.int .i64 0, .int .i64 0]])[s.length]? = some (.cells [.int .i64 0, .int .i64 0]) := by simp
      have HX : HL ((s ++ [AObj.cells [.int .i64 0, .int .i64 0]]).set hp (.cells [.ref 2 s.length 0 1 false, .mapr mid, .int .i64 st])) hp mid s.length ([] ++ [(0, 0)]) [] (fun _ => none) st :=
        ⟨by rw [List.getElem?_set_self (by simp; omega)]; rfl, by rw [List.getElem?_set_ne h3, List.getElem?_append_left hm2]; exact h2, by rw [List.getElem?_set_ne (by omega)]; exact e0, h3, by omega, by omega, by simp, by simp, by simp⟩
      have SX := (same_set hp mid none (s ++ [AObj.cells [.int .i64 0, .int .i64 0]]) (.cells [.ref 2 s.length 0 1 false, .mapr mid, .int .i64 st]) (.inl rfl))
      have SX : Same hp mid none s _ := Same.trans ⟨by simp, fun i hi _ _ _ => List.getElem?_append_left hi⟩ SX
      have IX : Idx [] (fun _ => none) := ⟨by simp, by simp⟩
      refine aCalls_mono (hse HX IX) ?_
      rintro _ s2 v2 ⟨rfl, h2⟩
      simp
      refine aCalls_mono h2 ?_
      rintro _ s3 _ ⟨rfl, h1, h2, rfl⟩
      simp [hres]
      exact ⟨_, rfl, h1, same_chain SX h2 (.inr ⟨_, rfl, by simp⟩), .inr (by simp), rfl⟩
    | some l =>
      obtain ⟨r, f, h, hI⟩ := H
      have hkf := hI.find key
      rw [hf] at hkf
      simp at hkf
      have hfl := flat_len ts
      have hnn := h.nn
      have q1 : ∀ o J, (s.set l o ++ J)[hp]? = s[hp]? := fun o J => by rw [List.getElem?_append_left (by simpa using h.lth), List.getElem?_set_ne h.ne1]
      have m1 : ts.length + 1 ≤ maxLen := by simp only [maxLen]; omega
      have m2 : (ts.length + 1) * 16 ≤ 140737488355328 := by omega
      have m3 : flat ts = [] → ¬ flat r = [] := fun e1 e2 => by
        have x1 := flat_len ts
        have x2 := flat_len r
        rw [e1] at x1; rw [e2] at x2
        have y1 : ts = [] := List.length_eq_zero_iff.1 (by simp at x1; omega)
        have y2 : r = [] := List.length_eq_zero_iff.1 (by simp at x2; omega)
        exact hnn (by rw [y1, y2]; rfl)
      have m3' : (flat ts = [] → ¬ flat r = []) = True := eq_true m3
      have tk : List.take (ts.length * 2) (flat ts) = flat ts := by rw [← hfl, List.take_length]
      simp [Try.ntmps10, h.hh, h.hm, h.hl, hkf, p0, p1, p2, hfl, q1, m1, m2, m3', tk]
      have hs' : (s.set l (.cells [])).length = s.length := by simp
      have e0 : (s.set l (.cells []) ++ [AObj.cells (flat ts ++ [.int .i64 0, .int .i64 0])])[s.length]? = some (.cells (flat ts ++ [.int .i64 0, .int .i64 0])) := get_at0 hs'
      have e1 : ∀ j, j < s.length → l ≠ j → (s.set l (.cells []) ++ [AObj.cells (flat ts ++ [.int .i64 0, .int .i64 0])])[j]? = s[j]? := fun j hj hl => by rw [List.getElem?_append_left (by simpa using hj), List.getElem?_set_ne hl]
      have HX : HL ((s.set l (.cells []) ++ [AObj.cells (flat ts ++ [.int .i64 0, .int .i64 0])]).set hp (.cells [.ref 2 s.length 0 (ts.length + 1) false, .mapr mid, .int .i64 st])) hp mid s.length (ts ++ [(0, 0)]) [] f st :=
        ⟨by rw [List.getElem?_set_self (by simp; have := h.lth; omega)]; simp, by rw [List.getElem?_set_ne h.ne, e1 _ h.ltm h.ne2]; exact h.hm, by rw [List.getElem?_set_ne (by have := h.lth; omega)]; rw [e0, flat_app]; simp [flat, tc], h.ne, by have := h.lth; omega, by have := h.ltm; omega, by simp, by simp; omega, h.vals⟩
      have SX := (same_set hp mid (some l) (s.set l (.cells []) ++ [AObj.cells (flat ts ++ [.int .i64 0, .int .i64 0])]) (.cells [.ref 2 s.length 0 (ts.length + 1) false, .mapr mid, .int .i64 st]) (.inl rfl))
      have SX : Same hp mid (some l) s _ := Same.trans ⟨by simp, fun i hi _ _ hl => e1 i hi (fun e => hl (by rw [e]))⟩ SX
      refine aCalls_mono (hse HX hI) ?_
      rintro _ s2 v2 ⟨rfl, h2⟩
      simp
      refine aCalls_mono h2 ?_
      rintro _ s3 _ ⟨rfl, h1, h2, rfl⟩
      simp [hres]
      exact ⟨_, rfl, h1, same_chain SX h2 (.inr ⟨_, rfl, by simp⟩), .inr (by simp), rfl⟩
end
end Go.Hb
end

section
namespace Go.Hb
open Go Go.Proofs Go.RowKit
attribute [-simp] aC aL aOper aThen aInBlock aIf aPlan aAppend

/-- The last place is taken away, behind a swap. -/
def cutL (ts : List Tm) (i : Nat) : List Tm := (swp ts i (ts.length - 1)).take (ts.length - 1)
def cancelL (ts : List Tm) (key : Int) : List Tm := match find ts key with | none => ts | some i => if i < ts.length - 1 then fixL (cutL ts i) i else cutL ts i
def cancelN (ts : List Tm) (key : Int) : Nat := match find ts key with | none => 0 | some i => if i < ts.length - 1 then fixN (cutL ts i) i else 0

theorem cut_len {ts : List Tm} {i : Nat} : (cutL ts i).length = ts.length - 1 := by unfold cutL; rw [List.length_take, swp_len]; omega
theorem take_get (ts : List Tm) {n j : Nat} (h : j < n) : tg (ts.take n) j = tg ts j := by
  unfold tg; rw [List.getD_eq_getElem?_getD, List.getElem?_take, if_pos h, List.getD_eq_getElem?_getD]

theorem Idx.cut {ts : List Tm} {f : Int → Option LV} (h : Idx ts f) {i : Nat} (hi : i < ts.length) : Idx (cutL ts i) (fdel (swpF ts f i (ts.length - 1)) (tg ts i).2) := by
  have hl : ts.length - 1 < ts.length := by omega
  have hs := h.swap hi hl
  have gl : tg (swp ts i (ts.length - 1)) (ts.length - 1) = tg ts i := by rw [swp_get hi hl, if_pos rfl]
  constructor
  · intro j hj
    rw [cut_len] at hj
    have hj2 : j < (swp ts i (ts.length - 1)).length := by rw [swp_len]; omega
    have e : tg (cutL ts i) j = tg (swp ts i (ts.length - 1)) j := take_get _ hj
    rw [e]
    unfold fdel
    rw [if_neg ?_]
    · exact hs.at_ j hj2
    · intro e2
      rw [← gl] at e2
      have := hs.inj hj2 (by rw [swp_len]; exact hl) e2
      omega
  · intro k x hx
    unfold fdel at hx
    split at hx
    · simp at hx
    · rename_i hk
      obtain ⟨j, hj, ej⟩ := hs.in_ k x hx
      rw [swp_len] at hj
      by_cases h1 : j = ts.length - 1
      · subst h1; rw [gl] at ej; exact absurd ej.symm hk
      · refine ⟨j, by rw [cut_len]; omega, ?_⟩
        have e : tg (cutL ts i) j = tg (swp ts i (ts.length - 1)) j := take_get _ (by omega)
        rw [e]; exact ej

section
variable {s : List AObj} {v : List Nat} {hp mid l : Nat} {lo : Option Nat} {ts r : List Tm} {st : Int}

def CPost (s : List AObj) (hp mid : Nat) (lo : Option Nat) (ts : List Tm) (st : Int) (x : LV) (v : List Nat) (y : LV) (s' : List AObj) (v' : List Nat) : Prop :=
  y = x ∧ HT s' hp mid lo ts st ∧ Same hp mid lo s s' ∧ v = v'

set_option maxRecDepth 10000 in
set_option maxHeartbeats 8000000 in
theorem cancel_c (H : HT s hp mid lo ts st) {key : Int} (hst : 0 ≤ st ∧ st ≤ 400000000) :
    aCalls Try.prog 19 [.ptr hp 0, .int .i64 key] s v (CPost s hp mid lo (cancelL ts key) (st + cancelN ts key) (.bool (find ts key).isSome) v) := by
  refine aCalls_of Try.func19 rfl (by decide) (by simp [Try.ntmps19]) false ?_
  have hres : Try.f19.results = #[.tmp 4] := rfl
  cases hf : find ts key with
  | none =>
    have e1 : cancelL ts key = ts := by unfold cancelL; rw [hf]
    have e2 : st + (cancelN ts key : Nat) = st := by unfold cancelN; rw [hf]; simp
    rw [e1, e2]
    cases lo with
    | none =>
      have H' := H
      obtain ⟨rfl, h1, h2, h3⟩ := H
      simp [Try.ntmps19, h1, h2, hres]
      exact ⟨rfl, H', Same.refl _ _ _ _, rfl⟩
    | some l =>
      have H' := H
      obtain ⟨r, f, h, hI⟩ := H
      have hkf := hI.find key
      rw [hf] at hkf
      simp at hkf
      simp [Try.ntmps19, h.hh, h.hm, hkf, hres]
      exact ⟨rfl, H', Same.refl _ _ _ _, rfl⟩
  | some i =>
    obtain ⟨hi, hk⟩ := find_some hf
    cases lo with
    | none => obtain ⟨rfl, _⟩ := H; simp at hi
    | some l =>
      obtain ⟨r, f, h, hI⟩ := H
      have hkf := hI.find key
      rw [hf] at hkf
      simp at hkf
      have hsm := h.small
      have hl : ts.length - 1 < ts.length := by omega
      have w1 : IntKind.i64.wrap ((ts.length : Int) - 1) = ((ts.length - 1 : Nat) : Int) := by rw [IntWalk.i64_in _ ⟨by omega, by omega⟩]; omega
      have h1 := h.swap hi hl
      have hs1 := swapS_same s hp mid l i (ts.length - 1) ts r f
      simp [Try.ntmps19, h.hh, h.hm, hkf, w1]
      refine aCalls_mono (swap_c (v := v) h hi hl) ?_
      obtain ⟨s1, es1⟩ : ∃ s1, s1 = swapS s mid l i (ts.length - 1) ts r f := ⟨_, rfl⟩
      rw [← es1] at h1 hs1 ⊢
      rintro _ _ _ ⟨rfl, rfl, rfl⟩
      have hh := h1.hh
      rw [swp_len] at hh
      have q1 : ∀ o, (s1.set hp o)[hp]? = some o := fun o => List.getElem?_set_self h1.lth
      have q2 : ∀ o, (s1.set hp o)[mid]? = s1[mid]? := fun o => by rw [List.getElem?_set_ne h1.ne]
      have hl1 := h1.hl
      have hfl := flat_len (swp ts i (ts.length - 1))
      rw [swp_len] at hfl
      simp [hh, hl1, q1, q2, h1.hm, hfl]
      subst hk
      have hv : ∀ k x, fdel (swpF ts f i (ts.length - 1)) (tg ts i).2 k = some x → ∃ j : Nat, x = .int .i64 j := fun k x hx => by
        unfold fdel at hx
        split at hx
        · simp at hx
        · exact h1.vals k x hx
      have hnn : cutL ts i ++ ((swp ts i (ts.length - 1)).drop (ts.length - 1) ++ r) ≠ [] := by
        have := h1.nn
        unfold cutL; rwa [← List.append_assoc, List.take_append_drop]
      have hfl3 : flat (cutL ts i) ++ flat ((swp ts i (ts.length - 1)).drop (ts.length - 1) ++ r) = flat (swp ts i (ts.length - 1)) ++ flat r := by
        unfold cutL; rw [← flat_app, ← List.append_assoc, List.take_append_drop, flat_app]
      have H3 : HL ((s1.set hp (AObj.cells [LV.ref 2 l 0 (ts.length - 1) false, LV.mapr mid, LV.int IntKind.i64 st])).set mid (AObj.map (fdel (swpF ts f i (ts.length - 1)) (tg ts i).2))) hp mid l (cutL ts i) ((swp ts i (ts.length - 1)).drop (ts.length - 1) ++ r) (fdel (swpF ts f i (ts.length - 1)) (tg ts i).2) st :=
        ⟨by rw [List.getElem?_set_ne (Ne.symm h1.ne), q1, cut_len], List.getElem?_set_self (by have := h1.ltm; simpa using this), by rw [List.getElem?_set_ne (Ne.symm h1.ne2), List.getElem?_set_ne (Ne.symm h1.ne1), hfl3]; exact hl1, h1.ne, h1.ne1, h1.ne2, hnn, by rw [cut_len]; omega, hv⟩
      have I3 := hI.cut hi
      have S3 : Same hp mid (some l) s _ := (hs1.trans (same_set hp mid (some l) s1 (AObj.cells [LV.ref 2 l 0 (ts.length - 1) false, LV.mapr mid, LV.int IntKind.i64 st]) (.inl rfl))).trans (same_set hp mid (some l) _ (AObj.map (fdel (swpF ts f i (ts.length - 1)) (tg ts i).2)) (.inr (.inl rfl)))
      by_cases hlt : i < ts.length - 1
      · rw [if_pos hlt]
        refine aCalls_mono (fix_c (v := v) ⟨_, H3, I3⟩ (i := i) (by rw [cut_len]; exact hlt) hst) ?_
        rintro _ s4 _ ⟨rfl, H4, hS4, hl4, rfl⟩
        simp [hres]
        refine ⟨rfl, ?_, S3.trans hS4, rfl⟩
        unfold cancelL cancelN; rw [hf]; simp only; rw [if_pos hlt, if_pos hlt]; exact ⟨_, H4⟩
      · rw [if_neg hlt]
        refine ⟨rfl, ?_, S3, rfl⟩
        unfold cancelL cancelN; rw [hf]; simp only; rw [if_neg hlt, if_neg hlt]; exact ⟨_, _, by simpa using H3, I3⟩
end
end Go.Hb
end

