/-
  A layer for reasoning about the program's calls, and contracts of its functions (D7). CONDITIONS: none; each theorem bears its own.
-/
import Derived.Test.YtodibkcciihodaaD6
import Derived.Test.YtodibkcciihodaaL5
set_option linter.unusedVariables false
set_option linter.unusedSimpArgs false
section
namespace Go.Hb
open Go Go.Proofs Go.RowKit
attribute [-simp] aC aL aOper aThen aInBlock aIf aPlan aAppend

/-- One slot of the frame may be known less exactly. -/
theorem aW_weak_at {P : Program} {r : Option Nat} {N : Nat} {c : Code} {Q : Exit → St → Prop} {t : Nat → LV} {s : List AObj} {v : List Nat} (i : Nat) {x : LV} (hx : Weak (t i) x) (h : aW P r N c Q ⟨upd i x t, s, v⟩) : aW P r N c Q ⟨t, s, v⟩ :=
  aW_weak (st' := ⟨upd i x t, s, v⟩) (fun j => by
    by_cases e : j = i
    · subst e; simpa [upd_apply] using hx
    · simp only [upd_apply, if_neg e]; exact Weak.refl _) (WeakS.refl _) rfl h

theorem refCancel_len (R : List Tm) (key : Int) : (refCancel R key).length ≤ R.length := List.length_filter_le _ _
theorem refSet_len (R : List Tm) (key at_ : Int) : (refSet R key at_).length ≤ R.length + 1 := by
  rw [(refSet_perm R key at_).length_eq, List.length_cons]; have := refCancel_len R key; omega
theorem late_len (R : List Tm) (now : Int) : (R.dropWhile (early now)).length ≤ R.length := by
  have := congrArg List.length (List.takeWhile_append_dropWhile (p := early now) (l := R))
  rw [List.length_append] at this; omega
theorem doR_len (R : List Tm) (d : Deed) : (doR R d).length ≤ R.length + 1 := by
  unfold doR
  split
  · exact refSet_len _ _ _
  · split
    · have := refCancel_len R d.key; omega
    · split
      · have := late_len R d.at_; omega
      · omega
theorem doN_le (R : List Tm) (d : Deed) : doN R d ≤ R.length + 1 := by
  unfold doN
  split
  · have := early_len R d.at_; omega
  · omega

/-! ### deeds in memory -/
def dcs (L : List Deed) : List LV := L.flatMap Deed.lv
def deeds (L : List Deed) : LV := .imm 3 L.length (dcs L) .no
theorem dcs_len : ∀ L : List Deed, (dcs L).length = L.length * 3
  | [] => rfl
  | d :: L => by have := dcs_len L; simp only [dcs] at this ⊢; rw [List.flatMap_cons, List.length_append, this]; simp [Deed.lv]; omega
theorem dcs_drop : ∀ (L : List Deed) (i : Nat) (h : i < L.length), (dcs L).drop (i * 3) = L[i].lv ++ dcs (L.drop (i + 1))
  | d :: L, 0, _ => by simp [dcs]
  | d :: L, i + 1, h => by
    have ih := dcs_drop L i (by simpa using h)
    have e : dcs (d :: L) = d.lv ++ dcs L := by simp [dcs]
    have : (d.lv ++ dcs L).drop 3 = dcs L := by simp [Deed.lv]
    rw [e, show (i + 1) * 3 = 3 + i * 3 by omega, ← List.drop_drop, this, ih]; simp
theorem dcs_get0 {L : List Deed} {i : Nat} (h : i < L.length) : (dcs L)[i * 3]? = some (.int .i64 L[i].kind) := by
  have := congrArg (·[0]?) (dcs_drop L i h)
  simpa [Deed.lv] using this
theorem dcs_get2 {L : List Deed} {i : Nat} (h : i < L.length) : (dcs L)[i * 3 + 2]? = some (.int .i64 L[i].at_) := by
  have := congrArg (·[2]?) (dcs_drop L i h)
  simpa [Deed.lv] using this
theorem dcs_at0 {L : List Deed} {i : Nat} (h : i < L.length) (h' : i * 3 < (dcs L).length) : (dcs L)[i * 3] = .int .i64 L[i].kind := by
  have := dcs_get0 h; rw [List.getElem?_eq_getElem h'] at this; exact Option.some.inj this
theorem dcs_at2 {L : List Deed} {i : Nat} (h : i < L.length) (h' : i * 3 + 2 < (dcs L).length) : (dcs L)[i * 3 + 2] = .int .i64 L[i].at_ := by
  have := dcs_get2 h; rw [List.getElem?_eq_getElem h'] at this; exact Option.some.inj this
theorem dcs_three {L : List Deed} {i : Nat} (h : i < L.length) : ((dcs L).drop (i * 3)).take 3 = L[i].lv := by
  rw [dcs_drop L i h]; simp [Deed.lv]

set_option maxRecDepth 10000 in
set_option maxHeartbeats 8000000 in
theorem stepsLaw_c {L : List Deed} (hlen : L.length ≤ maxLen) : aCalls Try.prog 5 [deeds L] [] [] fun y _ _ => y = .bool true := by
  refine aCalls_of Try.func5 rfl (by decide) (by simp [Try.ntmps5]) false ?_
  have hres : Try.f5.results = #[.tmp 2] := rfl
  simp [Try.ntmps5, deeds]
  refine aCalls_mono (new_h [] []) ?_
  rintro _ s0 _ ⟨rfl, H0, _, rfl⟩
  simp
  refine aW_weak_at 4 (x := rf []) (by simp [upd_apply]; exact Weak.nils _ _ (.inl rfl)) ?_
  refine aW_forC false 80 (fun k st => ∃ R stp, HeapAt s0 st.s 1 0 R stp ∧ R.length ≤ k ∧ 0 ≤ stp ∧ stp ≤ (k : Int) * 300000 ∧ st.t 4 = rf R ∧ st.t 3 = .ptr 1 0 ∧ st.t 0 = .imm 3 L.length (dcs L) .no ∧ st.t 5 = .int .i64 k) ?_ ?_
  · exact ⟨0, by omega, [], 0, H0, by simp, by omega, by simp, by simp [upd_apply], by simp [upd_apply], by simp [upd_apply], by simp [upd_apply]⟩
  rintro k t1 s1 v1 hk ⟨R, stp, H1, hR, hs0, hs1, h4, h3, h0, h5⟩
  simp only at h4 h3 h0 h5 H1
  by_cases hlt : k < L.length
  · by_cases h80 : k < 80
    · have h80' : (k : Int) < 80 := by omega
      have hw := wrap_succ (n := 100) (k := k) (by omega) (by omega)
      have hwR := wrap_succ (n := 100) (k := R.length) (by omega) (by omega)
      have g0 := dcs_get0 hlt
      have g2 := dcs_get2 hlt
      have g3 := dcs_three hlt
      have hl := dcs_len L
      have b1 : k * 3 + 3 ≤ L.length * 3 := by omega
      have b2 : 3 ≤ L.length * 3 - k * 3 := by omega
      have b3 : k * 3 < L.length * 3 := by omega
      have b4 : k * 3 + 2 < L.length * 3 := by omega
      have a0 := dcs_at0 hlt
      have a2 := dcs_at2 hlt
      have hdl := dg_le (R.length + 1)
      have hM := doN_le R L[k]
      have hMD : doN R L[k] * dg (R.length + 1) ≤ 81 * 81 := Nat.mul_le_mul (by omega) (by omega)
      have hRl := doR_len R L[k]
      have hwm : IntKind.i64.wrap (3 * (doN R L[k] : Int)) = 3 * (doN R L[k] : Int) := IntWalk.i64_in _ ⟨by omega, by omega⟩
      have hprod : 3 * (doN R L[k] : Int) * (dg (R.length + 1) : Int) = ((3 * (doN R L[k] * dg (R.length + 1)) : Nat) : Int) := by
        rw [Int.mul_assoc]; simp
      have hwp : IntKind.i64.wrap (3 * (doN R L[k] : Int) * (dg (R.length + 1) : Int)) = ((3 * (doN R L[k] * dg (R.length + 1)) : Nat) : Int) := by
        rw [hprod]; exact IntWalk.i64_in _ ⟨by omega, by omega⟩
      have hd := does_c (v := v1) H1 L[k] (by omega) (by omega)
      simp [h0, h5, h4, h3, hlt, h80, h80', rf]
      refine aCalls_mono (steps_h (v := v1) H1) ?_
      rintro _ _ _ ⟨rfl, rfl, rfl⟩
      have hD : ∀ D : Nat, D = dg (R.length + 1) → True := fun _ _ => trivial
      by_cases hk2 : L[k].kind = 2
      · have eM : doN R L[k] = (R.takeWhile (early L[k].at_)).length := by unfold doN; rw [if_pos hk2]
        simp [h0, h5, h4, h3, hlt, rf, hwR, g0, g2, hl, b3, b4, a0, a2, hk2]
        refine aCalls_mono (refDue_p (R := R) (now := L[k].at_) (by omega) _ _) ?_
        rintro _ _ vx ⟨rfl, rfl, hv⟩
        have hwmM := hwm
        have hwpM := hwp
        rw [eM] at hwmM hwpM
        have hNM : ∀ N : Nat, N ≤ 3 * (doN R L[k] * dg (R.length + 1)) → ¬ (((3 * ((R.takeWhile (early L[k].at_)).length * dg (R.length + 1)) : Nat) : Int) < (N : Int)) := fun N h => by rw [eM] at h; omega
        simp [h0, h5, h4, h3, hlt, hl, b1, b2, g3, ks_len, encI]

        refine aCalls_mono (does_c (v := vx) H1 L[k] (by omega) (by omega)) ?_
        rintro _ s2 v2 ⟨rfl, ⟨N, hN, H2⟩, hv2⟩
        simp [h3]
        refine aCalls_mono (steps_h (v := v2) H2) ?_
        rintro _ _ _ ⟨rfl, rfl, rfl⟩
        have c1 : ¬ (stp + (N : Nat) < stp) := by omega
        have c2 : IntKind.i64.wrap (stp + (N : Nat) - stp) = (N : Nat) := by rw [show stp + (N : Int) - stp = (N : Int) by omega]; exact IntWalk.i64_in _ ⟨by omega, by omega⟩
        simp [c1, h3]
        refine aCalls_mono (steps_h (v := v2) H2) ?_
        rintro _ _ _ ⟨rfl, rfl, rfl⟩
        simp [c2, hwmM]
        refine aCalls_mono (digits_p (n := R.length + 1) (by omega) _ _) ?_
        rintro _ _ _ ⟨rfl, rfl, rfl⟩
        simp [hwpM, hNM N hN, hw, h5]
        refine ⟨?_, hid ⟨by omega, doR R L[k], stp + (N : Nat), H2, by omega, by omega, by omega, by simp [upd_apply, rf], by simp [upd_apply, h3], by simp [upd_apply, h0], by simp [upd_apply]⟩⟩
        have hNi := Int.ofNat_le.2 hN
        rw [eM] at hNi
        simpa using hNi
      · have eM : doN R L[k] = 1 := by unfold doN; rw [if_neg hk2]
        simp [h0, h5, h4, h3, hlt, rf, hwR, g0, g2, hl, b1, b2, b3, b4, a0, a2, hk2, g3]
        have hwmM := hwm
        have hwpM := hwp
        rw [eM] at hwmM hwpM
        have hNM : ∀ N : Nat, N ≤ 3 * (doN R L[k] * dg (R.length + 1)) → ¬ (((3 * (1 * dg (R.length + 1)) : Nat) : Int) < (N : Int)) := fun N h => by rw [eM] at h; omega
        obtain ⟨vx, hvx⟩ : ∃ vx, vx = v1 := ⟨_, rfl⟩
        rw [← hvx]

        refine aCalls_mono (does_c (v := vx) H1 L[k] (by omega) (by omega)) ?_
        rintro _ s2 v2 ⟨rfl, ⟨N, hN, H2⟩, hv2⟩
        simp [h3]
        refine aCalls_mono (steps_h (v := v2) H2) ?_
        rintro _ _ _ ⟨rfl, rfl, rfl⟩
        have c1 : ¬ (stp + (N : Nat) < stp) := by omega
        have c2 : IntKind.i64.wrap (stp + (N : Nat) - stp) = (N : Nat) := by rw [show stp + (N : Int) - stp = (N : Int) by omega]; exact IntWalk.i64_in _ ⟨by omega, by omega⟩
        simp [c1, h3]
        refine aCalls_mono (steps_h (v := v2) H2) ?_
        rintro _ _ _ ⟨rfl, rfl, rfl⟩
        simp [c2, hwmM]
        refine aCalls_mono (digits_p (n := R.length + 1) (by omega) _ _) ?_
        rintro _ _ _ ⟨rfl, rfl, rfl⟩
        have w3 : IntKind.i64.wrap 3 = 3 := rfl
        have w3d : IntKind.i64.wrap (3 * (dg (R.length + 1) : Int)) = 3 * (dg (R.length + 1) : Int) := IntWalk.i64_in _ ⟨by omega, by omega⟩
        have hN2 : (N : Int) ≤ 3 * (dg (R.length + 1) : Int) := by rw [eM] at hN; omega
        simp [w3, w3d, hN2, hw, h5]
        exact hid ⟨by omega, doR R L[k], stp + (N : Nat), H2, by omega, by omega, by omega, by simp [upd_apply, rf], by simp [upd_apply, h3], by simp [upd_apply, h0], by simp [upd_apply]⟩
    · have h80' : ¬ ((k : Int) < 80) := by omega
      simp [h0, h5, hlt, h80, h80']
      refine aCalls_mono (lives_p _ _) ?_
      rintro _ _ _ ⟨rfl, rfl, hv⟩
      simp [hres]
  · simp [h0, h5, hlt]
    refine aCalls_mono (lives_p _ _) ?_
    rintro _ _ _ ⟨rfl, rfl, hv⟩
    simp [hres]
end Go.Hb
end

section
namespace Go.Hb
open Go Go.Proofs Go.RowKit Go.ChangeShapes Go.WideShapes

section
variable {H : Type} {enc : TypeId × Value → H} {W : World}

theorem opens_deed : Opens enc Try.prog W 41 (fun d : Deed => I64 d.kind ∧ I64 d.key ∧ I64 d.at_) Deed.lv := by
  have hi : Opens enc Try.prog W 3 I64 (fun n => [.int .i64 n]) := opens_i64 Try.underlying3
  refine opens_conv (fun p : Int × Int × Int × Unit => (⟨p.1, p.2.1, p.2.2.1⟩ : Deed)) (opens_struct Try.underlying41 (N := 3) (by kernel_rfl)
    (opensFs_cons (m := 1) rfl (by kernel_rfl) hi (opensFs_cons (m := 1) rfl (by kernel_rfl) hi (opensFs_cons (m := 1) rfl (by kernel_rfl) hi (opensFs_nil 3))))) ?_
  rintro ⟨a, b, c, u⟩ ⟨h1, h2, h3, _⟩
  exact ⟨⟨h1, h2, h3⟩, rfl⟩
theorem opens_deeds : Opens enc Try.prog W 39 (fun l : List Deed => (∀ d ∈ l, I64 d.kind ∧ I64 d.key ∧ I64 d.at_) ∧ l.length ≤ maxLen) (fun l => [deeds l]) :=
  opens_slice Try.underlying39 (m := 3) (by kernel_rfl) (by omega) (fun _ _ => rfl) opens_deed
theorem opens_row : Opens enc Try.prog W 22 Ints (fun l => [encI l]) := opens_ints Try.underlying22 Try.underlying3 (by kernel_rfl)
end
end Go.Hb
end

