/-
  A layer for reasoning about the program's calls, and contracts of its functions (D8). CONDITIONS: none; each theorem bears its own.
-/
import Derived.Test.YtodibkcciihodaaD7
import Derived.Test.YtodibkcciihodaaL5
set_option linter.unusedVariables false
set_option linter.unusedSimpArgs false
namespace Go.Hb
open Go Go.Proofs Go.RowKit
attribute [-simp] aC aL aOper aThen aInBlock aIf aPlan aAppend

theorem encI_get {l : List Int} {i : Nat} (h : i < l.length) : (l.map (LV.int .i64))[i]? = some (.int .i64 l[i]) := by simp [h]

/-! ### a row that grows while others grow -/
def GrG (sz : Nat) (v' : List Nat) (n : Nat) (cs : List LV) (x : LV) : Prop := (n = 0 ∧ cs = [] ∧ (x = .nils ∨ x = .imm sz 0 [] .full)) ∨ ∃ g e, x = .imm sz n cs (.tip g e) ∧ v'[g]? = some e
theorem GrG.nil (sz : Nat) (v : List Nat) : GrG sz v 0 [] .nils := .inl ⟨rfl, rfl, .inl rfl⟩
theorem GrG.mono {sz : Nat} {v v' : List Nat} {n : Nat} {cs : List LV} {x : LV} (h : GrG sz v n cs x) (hv : v <+: v') : GrG sz v' n cs x := by
  rcases h with h | ⟨g, e, rfl, he⟩
  · exact .inl h
  · obtain ⟨w, rfl⟩ := hv
    exact .inr ⟨g, e, rfl, by rw [List.getElem?_append_left (List.getElem?_eq_some_iff.1 he).1]; exact he⟩
theorem GrG.weak {sz : Nat} {v' : List Nat} {n : Nat} {cs : List LV} {x : LV} (h : GrG sz v' n cs x) : Weak x (.imm sz n cs .no) := by
  rcases h with ⟨rfl, rfl, rfl | rfl⟩ | ⟨g, e, rfl, _⟩
  · exact Weak.nils _ _ (.inl rfl)
  · exact Weak.imm _ _ _ _
  · exact Weak.imm _ _ _ _
theorem GrG.app {P : Program} {t t2 e : TypeId} {size by_ : Nat} {z : LV} (hu : P.underlying t = some (.slice e)) (hsz : szT P e = some size) (hby : bytesT P e = some by_) (hz : zeroT P e = some z)
    (h1 : notInt P t2 = true) (h2 : z.cellsOk = true) (h3 : z.cells.length = size) {v' : List Nat} {n m : Nat} {cs ds : List LV} {x : LV} (h : GrG size v' n cs x) (h0 : m = 0 → ds = [])
    (b1 : n + m ≤ maxLen) (b2 : (n + m) * by_ ≤ 140737488355328) :
    ∃ x' v'', GrG size v'' (n + m) (cs ++ ds) x' ∧ ∀ y s, aCells size y s = some (ds, m) → aAppend P t t2 x y s v' = some (x', v'') := by
  have key : ∀ {r r' : Right} {v'' : List Nat}, aHead size x = some (cs, n, r) → grow m r v' = some (r', v'') → ∀ y s, aCells size y s = some (ds, m) → aAppend P t t2 x y s v' = some (.imm size (n + m) (cs ++ ds) r', v'') := fun {r r' v''} hh hg y s hy => by
    unfold aAppend
    simp only [hu, hsz, hby, hz]
    rw [if_pos ⟨h1, h2, h3⟩, hy, hh]
    simp only
    rw [if_pos ⟨b1, b2⟩, hg]
    rfl
  rcases h with ⟨rfl, rfl, hx⟩ | ⟨g, k, rfl, hk⟩
  · have hh : aHead size x = some ([], 0, .full) := by rcases hx with rfl | rfl <;> simp [aHead]
    by_cases hm : m = 0
    · refine ⟨_, v', .inl ⟨by omega, by rw [h0 hm]; rfl, .inr ?_⟩, key (r' := .full) hh (by simp [grow, hm])⟩
      rw [h0 hm, hm]; rfl
    · exact ⟨_, v' ++ [0], .inr ⟨v'.length, 0, rfl, by simp⟩, key hh (by simp [grow, hm])⟩
  · have hh : aHead size (.imm size n cs (.tip g k)) = some (cs, n, .tip g k) := by simp [aHead]
    by_cases hm : m = 0
    · exact ⟨_, _, .inr ⟨g, k, rfl, hk⟩, key hh (by simp [grow, hm])⟩
    · exact ⟨_, _, .inr ⟨g, k + 1, rfl, by rw [List.getElem?_set_self (List.getElem?_eq_some_iff.1 hk).1]⟩, key hh (by simp [grow, hm, hk])⟩
/-- The next row of numbers is appended. -/
theorem app_row {v' : List Nat} {A B : List Int} {x : LV} (h : GrG 1 v' A.length (A.map (.int .i64)) x) (hl : A.length + B.length ≤ 1000000) :
    ∃ x' v'', GrG 1 v'' (A ++ B).length ((A ++ B).map (.int .i64)) x' ∧ ∀ r s, aAppend Try.prog 22 22 x (.imm 1 B.length (B.map (.int .i64)) r) s v' = some (x', v'') := by
  obtain ⟨x', v'', h1, h2⟩ := GrG.app (P := Try.prog) (t := 22) (t2 := 22) (e := 3) (m := B.length) (size := 1) (by_ := 8) (z := .int .i64 0) (ds := B.map (.int .i64)) (by simp) (by simp) (by simp) (by simp) (by simp) (by simp) (by simp) h (fun e => by rw [List.length_eq_zero_iff.1 e]; rfl) (by unfold maxLen; omega) (by omega)
  exact ⟨x', v'', by rw [List.length_append, List.map_append]; exact h1, fun r s => h2 _ s (by simp)⟩

theorem early_mem {R : List Tm} {now : Int} : ∀ t ∈ R.takeWhile (early now), t ∈ R ∧ t.1 ≤ now := by
  induction R with
  | nil => intro t h; simp at h
  | cons x R ih =>
    intro t h
    rw [List.takeWhile_cons] at h
    split at h
    · rename_i hx
      rcases List.mem_cons.1 h with rfl | h
      · exact ⟨List.mem_cons_self, by simpa [early] using hx⟩
      · exact ⟨List.mem_cons_of_mem _ (ih t h).1, (ih t h).2⟩
    · simp at h
theorem atV_mem {R : List Tm} (h : (R.map Prod.snd).Nodup) {t : Tm} (ht : t ∈ R) : atV R t.2 = .tup [.int .i64 t.1, .bool true] := by
  unfold atV
  cases hf : find R t.2 with
  | none =>
    have := List.findIdx?_eq_none_iff.1 hf t ht
    simp at this
  | some i =>
    obtain ⟨h1, h2⟩ := find_some hf
    have := key_inj h _ (tg_mem h1) _ ht h2
    simp only; rw [this]
theorem all_early {R : List Tm} {now : Int} (h : ∀ t ∈ R, t.1 ≤ now) : R.takeWhile (early now) = R ∧ R.dropWhile (early now) = [] := by
  have := tw_at (p := early now) R R.length (Nat.le_refl _) (fun j hj => by simpa [early] using h _ (tg_mem hj)) (.inl rfl)
  simpa using this
theorem refSet_mem {R : List Tm} {key at_ : Int} {t : Tm} : t ∈ refSet R key at_ ↔ t = (at_, key) ∨ (t ∈ R ∧ t.2 ≠ key) := by
  rw [(refSet_perm R key at_).mem_iff, List.mem_cons]
  unfold refCancel
  rw [List.mem_filter]
  simp
theorem refCancel_mem {R : List Tm} {key : Int} {t : Tm} : t ∈ refCancel R key ↔ t ∈ R ∧ t.2 ≠ key := by
  unfold refCancel
  rw [List.mem_filter]
  simp

theorem HeapAt.good {s0 s' : List AObj} {hp mid : Nat} {R : List Tm} {st : Int} (H : HeapAt s0 s' hp mid R st) : (R.map Prod.snd).Nodup ∧ R.Pairwise fun a b => lt2 a b = true := by
  obtain ⟨lo, ts, h1, h2, h3, h4⟩ := H.ex
  exact ⟨h2.keys, h2.sorted⟩

set_option maxRecDepth 10000 in
set_option maxHeartbeats 16000000 in
theorem onceLaw_c {l a : List Int} (hl : Ints l) (ha : Ints a) : aCalls Try.prog 3 [encI l, encI a] [] [] fun y _ _ => y = .bool true := by
  obtain ⟨hl1, hl2⟩ := hl
  obtain ⟨ha1, ha2⟩ := ha
  refine aCalls_of Try.func3 rfl (by decide) (by simp [Try.ntmps3]) false ?_
  have hres : Try.f3.results = #[.tmp 4] := rfl
  simp [Try.ntmps3, encI]
  refine aCalls_mono (new_h [] []) ?_
  rintro _ s0 _ ⟨rfl, H0, _, rfl⟩
  simp
  refine aW_weak_at 6 (x := rf []) (by simp [upd_apply]; exact Weak.nils _ _ (.inl rfl)) ?_
  refine aW_forC false 30 (fun k st => ∃ R stp, HeapAt s0 st.s 1 0 R stp ∧ R.length ≤ k ∧ 0 ≤ stp ∧ stp ≤ (k : Int) * 300000 ∧ (∀ t ∈ R, t.1 ≤ 999) ∧ st.t 6 = rf R ∧ st.t 5 = .ptr 1 0 ∧ st.t 0 = encI l ∧ st.t 1 = encI a ∧ st.t 7 = .int .i64 k) ?_ ?_
  · exact ⟨0, by omega, [], 0, H0, by simp, by omega, by simp, by simp, by simp [upd_apply], by simp [upd_apply], by simp [upd_apply, encI], by simp [upd_apply, encI], by simp [upd_apply]⟩
  rintro k t1 s1 v1 hk ⟨R, stp, H1, hR, hs0, hs1, hat, h6, h5, h0, h1, h7⟩
  simp only at h6 h5 h0 h1 h7 H1
  by_cases hc : k < l.length ∧ k < 30
  · obtain ⟨hlt, h30⟩ := hc
    have h30' : (k : Int) < 30 := by omega
    have hw := wrap_succ (n := 100) (k := k) (by omega) (by omega)
    have hdl := dg_le (R.length + 1)
    simp [h0, h7, hlt, h30, h30', encI]
    refine aCalls_mono (around_p (m := 1000) (by omega) (by omega) (hl1 _ (List.getElem_mem hlt)) _ _) ?_
    rintro _ _ _ ⟨rfl, rfl, rfl⟩
    have har := around_lt (a := l[k]) (m := 1000) (by omega)
    simp [h5, h7]
    refine aCalls_mono (set_h (v := v1) H1 k (around l[k] 1000) (by omega) (by omega)) ?_
    rintro _ s2 _ ⟨rfl, ⟨N, hN, H2⟩, rfl⟩
    simp [h6, h7]
    refine aCalls_mono (refSet_p (by omega) _ _) ?_
    rintro _ _ v2 ⟨rfl, rfl, hv2⟩
    simp [h7, hw]
    have hsl := refSet_len R k (around l[k] 1000)
    refine hid ⟨by omega, refSet R k (around l[k] 1000), stp + N, H2, by omega, by omega, by omega, fun t ht => ?_, by simp [upd_apply], by simp [upd_apply, h5], by simp [upd_apply, h0, encI], by simp [upd_apply, h1, encI], by simp [upd_apply]⟩
    rcases refSet_mem.1 ht with rfl | ⟨h, _⟩
    · simp only; omega
    · exact hat t h
  · have hcase : ¬ k < l.length ∨ (k < l.length ∧ ¬ k < 30) := by omega
    have hkey := H1.good.1
    rcases hcase with hlt | ⟨hlt, h30⟩
    all_goals
      first
        | simp [h0, h7, hlt, h30, show ¬ ((k : Int) < 30) by omega, encI]
        | simp [h0, h7, hlt, encI]
      refine aW_forC false 22 (fun j st => ∃ A B stp now x, R = A ++ B ∧ HeapAt s0 st.s 1 0 B stp ∧ 0 ≤ stp ∧ stp ≤ (k : Int) * 300000 + (j : Int) * 300000 ∧ (0 < j → (a.length ≤ j - 1 ∨ 20 ≤ j - 1) → B = []) ∧ (j ≤ a.length → j ≤ 20 → -1 ≤ now ∧ now ≤ 100 * (j : Int)) ∧ GrG 1 st.v (ks A).length ((ks A).map (.int .i64)) x ∧ st.t 12 = x ∧ st.t 6 = rf R ∧ st.t 5 = .ptr 1 0 ∧ st.t 1 = encI a ∧ st.t 13 = .int .i64 j ∧ st.t 11 = .int .i64 now) ?_ ?_
      · exact ⟨0, by omega, [], R, stp, -1, .nils, rfl, H1, hs0, by omega, fun h => absurd h (Nat.lt_irrefl _), fun _ _ => by omega, GrG.nil _ _, by simp [upd_apply], by simp [upd_apply, h6], by simp [upd_apply, h5], by simp [upd_apply, h1], by simp [upd_apply], by simp [upd_apply]⟩
      rintro j t2 s2 v2 hj ⟨A, B, stp2, now, x, rfl, H2, hs2, hs3, hB, hnow, hx, h12, h6, h5, h1, h13, h11⟩
      simp only at hx h12 h6 h5 h1 h13 h11 H2
      by_cases hd : j ≤ a.length ∧ j ≤ 20
      · obtain ⟨hja, hj20⟩ := hd
        obtain ⟨hn0, hn1⟩ := hnow hja hj20
        have hjaI : (j : Int) ≤ (a.length : Int) := by omega
        have hj20I : (j : Int) ≤ 20 := by omega
        have hw := wrap_succ (n := 100) (k := j) (by omega) (by omega)
        obtain ⟨nxt, hnxt⟩ : ∃ nxt : Int, nxt = if hh : j < a.length ∧ j < 20 then now + around (a[j]'hh.1) 100 else 100000 := ⟨_, rfl⟩
        have hq1 : (j + 1 ≤ a.length → j + 1 ≤ 20 → -1 ≤ nxt ∧ nxt ≤ 100 * ((j + 1 : Nat) : Int)) ∧ (a.length ≤ j ∨ 20 ≤ j → nxt = 100000) := by
          rw [hnxt]
          refine ⟨fun e1 e2 => ?_, fun e => ?_⟩
          · rw [dif_pos ⟨by omega, by omega⟩]
            have har := around_lt (a := a[j]) (m := 100) (by omega)
            omega
          · rw [dif_neg (by omega)]
        have hlenB : (ks (B.takeWhile (early nxt))).length ≤ 30 := by
          rw [ks_len]
          have := early_len B nxt
          simp only [List.length_append] at hR
          omega
        have hmemB : ∀ t ∈ B.takeWhile (early nxt), t ∈ A ++ B ∧ t.1 ≤ nxt := fun t ht => ⟨List.mem_append_right _ (early_mem t ht).1, (early_mem t ht).2⟩
        have hAB : A.length + B.length ≤ 30 := by simp only [List.length_append] at hR; omega
        have hdB := dg_le B.length
        have hcost : (B.takeWhile (early nxt)).length * dg B.length ≤ 30 * 30 := Nat.mul_le_mul (by rw [← ks_len]; exact hlenB) (by omega)
        by_cases hh : j < a.length ∧ j < 20
        · rw [dif_pos hh] at hnxt
          obtain ⟨hja2, hj202⟩ := hh
          have hj202I : (j : Int) < 20 := by omega
          have har := around_lt (a := a[j]) (m := 100) (by omega)
          have hwn : IntKind.i64.wrap (now + (around a[j] 100 : Int)) = nxt := by rw [hnxt]; exact IntWalk.i64_in _ ⟨by omega, by omega⟩
          simp [h1, h13, hja, hj20, hjaI, hj20I, hja2, hj202, hj202I, h11, encI]
          refine aCalls_mono (around_p (m := 100) (by omega) (by omega) (ha1 _ (List.getElem_mem hja2)) _ _) ?_
          rintro _ _ _ ⟨rfl, rfl, rfl⟩
          simp [hwn, h5]
          refine aCalls_mono (due_h (v := v2) H2 nxt (by omega) (by omega)) ?_
          rintro _ s3 v3 ⟨rfl, ⟨N, hN, H3⟩, hv3⟩
          simp [encI]
          refine aW_forC false (B.takeWhile (early nxt)).length (fun i st => GrG 1 st.v (ks A).length ((ks A).map (.int .i64)) x ∧ st.t 12 = x ∧ st.t 6 = rf (A ++ B) ∧ st.t 5 = .ptr 1 0 ∧ st.t 1 = encI a ∧ st.t 13 = .int .i64 j ∧ st.t 11 = .int .i64 nxt ∧ st.t 14 = encI (ks (B.takeWhile (early nxt))) ∧ st.t 15 = .int .i64 i ∧ st.s = s3) ?_ ?_
          · exact ⟨0, Nat.zero_le _, hx.mono hv3, by simp [upd_apply, h12], by simp [upd_apply, h6], by simp [upd_apply, h5], by simp [upd_apply, h1, encI], by simp [upd_apply, h13], by first | (simp [upd_apply, hwn, ← hnxt]; done) | simp [upd_apply], by simp [upd_apply, encI], by simp [upd_apply], rfl⟩
          rintro i t4 s4 v4 hi ⟨hx4, i12, i6, i5, i1, i13, i11, i14, i15, rfl⟩
          simp only at hx4 i12 i6 i5 i1 i13 i11 i14 i15
          by_cases hi2 : i < (B.takeWhile (early nxt)).length
          · have hi3 : i < (ks (B.takeWhile (early nxt))).length := by rw [ks_len]; exact hi2
            obtain ⟨m1, m2⟩ := hmemB _ (List.getElem_mem hi2)
            have hkk : (ks (B.takeWhile (early nxt)))[i] = ((B.takeWhile (early nxt))[i]).2 := by simp [ks]
            have hat2 := refAt_c (R := A ++ B) (key := ((B.takeWhile (early nxt))[i]).2) (s := s4) (v := v4) (by simp; omega)
            rw [atV_mem hkey m1] at hat2
            have hwi := wrap_succ (n := 100) (k := i) (by rw [ks_len] at hlenB; omega) (by omega)
            have m3 : ¬ (nxt < ((B.takeWhile (early nxt))[i]).1) := by omega
            simp [i14, i15, i6, encI, hi2, hi3, ks_len, hkk]
            refine aCalls_mono hat2 ?_
            rintro _ _ _ ⟨rfl, rfl, rfl⟩
            simp [i11, m3, i15, hwi]
            exact hid ⟨hi2, hx4, by simp [upd_apply, i12], by simp [upd_apply, i6], by simp [upd_apply, i5], by simp [upd_apply, i1, encI], by simp [upd_apply, i13], by simp [upd_apply, i11], by simp [upd_apply, i14, encI, ks_len], by simp [upd_apply], rfl⟩
          · obtain ⟨x', v'', hx', ha5⟩ := app_row (B := ks (B.takeWhile (early nxt))) hx4 (by rw [ks_len]; omega)
            simp [i14, i15, encI, hi2, ks_len] at ha5 ⊢
            simp [i12, i13, ha5, hw]
            refine hid ⟨by omega, A ++ B.takeWhile (early nxt), B.dropWhile (early nxt), stp2 + N, nxt, x', by rw [List.append_assoc, List.takeWhile_append_dropWhile], H3, by omega, by omega, fun _ e => ?_, hq1.1, by simpa [ks] using hx', by simp [upd_apply], by simp [upd_apply, i6], by simp [upd_apply, i5], by simp [upd_apply, i1, encI], by simp [upd_apply], by simp [upd_apply, i11]⟩
            have := hq1.2 (by omega)
            exact (all_early fun t ht => by have := hat t (List.mem_append_right _ ht); omega).2
        · rw [dif_neg hh] at hnxt
          have hcase2 : ¬ j < a.length ∨ (j < a.length ∧ ¬ j < 20) := by omega
          have key2 : LV.int .i64 100000 = LV.int .i64 nxt := by rw [hnxt]
          rcases hcase2 with hja2 | ⟨hja2, hj202⟩
          all_goals
            first
              | simp [h1, h13, hja, hj20, hjaI, hj20I, hja2, hj202, show ¬ ((j : Int) < 20) by omega, h11, encI, h5]
              | simp [h1, h13, hja, hj20, hjaI, hj20I, hja2, h11, encI, h5]
            rw [key2]
            refine aCalls_mono (due_h (v := v2) H2 nxt (by omega) (by omega)) ?_
            rintro _ s3 v3 ⟨rfl, ⟨N, hN, H3⟩, hv3⟩
            simp [encI]
            refine aW_forC false (B.takeWhile (early nxt)).length (fun i st => GrG 1 st.v (ks A).length ((ks A).map (.int .i64)) x ∧ st.t 12 = x ∧ st.t 6 = rf (A ++ B) ∧ st.t 5 = .ptr 1 0 ∧ st.t 1 = encI a ∧ st.t 13 = .int .i64 j ∧ st.t 11 = .int .i64 nxt ∧ st.t 14 = encI (ks (B.takeWhile (early nxt))) ∧ st.t 15 = .int .i64 i ∧ st.s = s3) ?_ ?_
            · exact ⟨0, Nat.zero_le _, hx.mono hv3, by simp [upd_apply, h12], by simp [upd_apply, h6], by simp [upd_apply, h5], by simp [upd_apply, h1, encI], by simp [upd_apply, h13], by first | (simp [upd_apply, hwn, ← hnxt]; done) | simp [upd_apply], by simp [upd_apply, encI], by simp [upd_apply], rfl⟩
            rintro i t4 s4 v4 hi ⟨hx4, i12, i6, i5, i1, i13, i11, i14, i15, rfl⟩
            simp only at hx4 i12 i6 i5 i1 i13 i11 i14 i15
            by_cases hi2 : i < (B.takeWhile (early nxt)).length
            · have hi3 : i < (ks (B.takeWhile (early nxt))).length := by rw [ks_len]; exact hi2
              obtain ⟨m1, m2⟩ := hmemB _ (List.getElem_mem hi2)
              have hkk : (ks (B.takeWhile (early nxt)))[i] = ((B.takeWhile (early nxt))[i]).2 := by simp [ks]
              have hat2 := refAt_c (R := A ++ B) (key := ((B.takeWhile (early nxt))[i]).2) (s := s4) (v := v4) (by simp; omega)
              rw [atV_mem hkey m1] at hat2
              have hwi := wrap_succ (n := 100) (k := i) (by rw [ks_len] at hlenB; omega) (by omega)
              have m3 : ¬ (nxt < ((B.takeWhile (early nxt))[i]).1) := by omega
              simp [i14, i15, i6, encI, hi2, hi3, ks_len, hkk]
              refine aCalls_mono hat2 ?_
              rintro _ _ _ ⟨rfl, rfl, rfl⟩
              simp [i11, m3, i15, hwi]
              exact hid ⟨hi2, hx4, by simp [upd_apply, i12], by simp [upd_apply, i6], by simp [upd_apply, i5], by simp [upd_apply, i1, encI], by simp [upd_apply, i13], by simp [upd_apply, i11], by simp [upd_apply, i14, encI, ks_len], by simp [upd_apply], rfl⟩
            · obtain ⟨x', v'', hx', ha5⟩ := app_row (B := ks (B.takeWhile (early nxt))) hx4 (by rw [ks_len]; omega)
              simp [i14, i15, encI, hi2, ks_len] at ha5 ⊢
              simp [i12, i13, ha5, hw]
              refine hid ⟨by omega, A ++ B.takeWhile (early nxt), B.dropWhile (early nxt), stp2 + N, nxt, x', by rw [List.append_assoc, List.takeWhile_append_dropWhile], H3, by omega, by omega, fun _ e => ?_, hq1.1, by simpa [ks] using hx', by simp [upd_apply], by simp [upd_apply, i6], by simp [upd_apply, i5], by simp [upd_apply, i1, encI], by simp [upd_apply], by simp [upd_apply, i11]⟩
              have := hq1.2 (by omega)
              exact (all_early fun t ht => by have := hat t (List.mem_append_right _ ht); omega).2
      · have hB0 : B = [] := hB (by omega) (by omega)
        subst hB0
        rw [List.append_nil] at h6 hR
        rcases (by omega : ¬ j ≤ a.length ∨ (j ≤ a.length ∧ ¬ j ≤ 20)) with hq | ⟨hq, hq2⟩
        all_goals
          first
            | simp [h1, h13, hq, hq2, show ¬ ((j : Int) ≤ 20) by omega, encI, h6, h12]
            | simp [h1, h13, hq, encI, h6, h12]
          refine aCalls_mono (keys_p (R := A) (by omega) _ _) ?_
          rintro _ _ v3 ⟨rfl, rfl, hv3⟩
          simp [h12]
          refine aCalls_mono (aCalls_argw (args := [x, encI (ks A)]) (args' := [encI (ks A), encI (ks A)]) ⟨hx.weak, Weak.refl _, trivial⟩ (sameInts_p (by rw [ks_len]; omega) _ _)) ?_
          rintro _ _ _ ⟨rfl, rfl, rfl⟩
          simp [h5]
          refine aCalls_mono (len_h (v := v3) H2) ?_
          rintro _ _ _ ⟨rfl, rfl, rfl⟩
          simp
          refine aCalls_mono (lives_p _ _) ?_
          rintro _ _ _ ⟨rfl, rfl, hv⟩
          simp [hres]
end Go.Hb
