/-
  A layer for reasoning about the program's calls, and contracts of its functions (C8). CONDITIONS: none; each theorem bears its own.
-/
import Derived.Test.YtgaaocndjaoihaaC7
set_option linter.unusedVariables false
set_option linter.unusedSimpArgs false
section
namespace Go.Hb
open Go Go.Proofs Go.RowKit
attribute [-simp] aC aL aOper aThen aInBlock aIf aPlan grow

set_option maxRecDepth 10000 in
set_option maxHeartbeats 2000000 in
theorem slIndex_p {l : List Int} {x : Int} (hb : l.length ≤ 1000000) : PureE Try.prog 39 [encI l, .int .i64 x] (.int .i64 (at_ l x)) := by
  refine .of fun s v => ?_
  refine aCalls_of Try.func39 rfl (by decide) (by simp [Try.ntmps39]) false ?_
  have hres : Try.f39.results = #[.tmp 4] := rfl
  simp [Try.ntmps39, encI]
  refine aW_forC false l.length (fun k st => (∀ j (hj : j < l.length), j < k → decide (l[j] = x) = false) ∧ st.t 8 = .int .i64 k ∧ st.t 7 = .int .i64 l.length ∧ st.t 0 = encI l ∧ st.t 1 = .int .i64 x ∧ s = st.s ∧ v = st.v) ?_ ?_
  · exact ⟨0, Nat.zero_le _, by simp [upd_apply, encI]⟩
  rintro k t1 s1 v1 hk ⟨hno, h8, h7, h0, h1, rfl, rfl⟩
  simp only at h8 h7 h0 h1
  by_cases hlt : k < l.length
  · have hlt' : (k : Int) < (l.length : Int) := by omega
    have hw := wrap_succ hlt hb
    by_cases he : x = l[k]
    · have hat := idx_at (p := fun y => decide (y = x)) hlt (by simp [he]) fun j hj => hno j (by omega) hj
      have hat' : at_ l l[k] = k := by rw [← he]; exact hat
      simp [h8, h7, h0, h1, encI, hlt, he, hres, hat']
      exact EndsE.same rfl (Weak.refl _)
    · simp [h8, h7, h0, h1, encI, hlt, he]
      refine hid ⟨hlt, fun j hj hjk => ?_, by simp [upd_apply, hw], by simp [upd_apply, h7], by simp [upd_apply, h0, encI], by simp [upd_apply, h1], rfl, rfl⟩
      by_cases e : j = k
      · subst e; simp; exact fun h => he h.symm
      · exact hno j hj (by omega)
  · have hat : at_ l x = -1 := idx_none fun j hj => hno j hj (by omega)
    simp [h8, h7, h0, h1, hlt, hres, hat]
    exact EndsE.same rfl (Weak.refl _)

theorem chIndex_p {l : List Int} {x : Int} (hb : l.length ≤ 1000000) : PureE Try.prog 21 [encI l, .int .i64 x] (.int .i64 (at_ l x)) := by
  refine .of fun s v => ?_
  refine aCalls_of Try.func21 rfl (by decide) (by simp [Try.ntmps21]) false ?_
  have hres : Try.f21.results = #[.tmp 4] := rfl
  simp [Try.ntmps21]
  refine aCalls_mono (slIndex_p hb _ _) ?_
  rintro _ _ _ ⟨rfl, rfl, rfl⟩
  simp [hres]
  exact EndsE.same rfl (Weak.refl _)

/-! ### what is ready first -/
def wantOf (c : Chs) (cl : List Nat) : Int := match cl.findIdx? (isReady c) with | some k => (k : Int) | none => -1
theorem want_succ (c : Chs) {cl : List Nat} {k : Nat} (h : k < cl.length) (h0 : wantOf c (cl.take k) < 0) : wantOf c (cl.take (k + 1)) = if isReady c cl[k] = true then (k : Int) else -1 := by
  unfold wantOf at h0 ⊢
  cases hf : (cl.take k).findIdx? (isReady c) with
  | some j => rw [hf] at h0; simp at h0; omega
  | none =>
    have ht : cl.take (k + 1) = cl.take k ++ [cl[k]] := by rw [List.take_add_one]; simp [h]
    rw [ht, List.findIdx?_append, hf]
    have hl : (cl.take k).length = k := by simp; omega
    by_cases hr : isReady c cl[k] = true
    · simp [List.findIdx?_cons, hr, hl]
    · simp [List.findIdx?_cons, hr]
theorem want_some (c : Chs) {cl : List Nat} {k : Nat} (h0 : ¬ wantOf c (cl.take k) < 0) : wantOf c (cl.take k) = wantOf c cl := by
  unfold wantOf at h0 ⊢
  cases hf : (cl.take k).findIdx? (isReady c) with
  | none => rw [hf] at h0; simp at h0
  | some j =>
    have : cl.findIdx? (isReady c) = some j := by
      conv => lhs; rw [← List.take_append_drop k cl]
      rw [List.findIdx?_append, hf]; rfl
    rw [this]
theorem sel_want (c : Chs) (cl : List Nat) (t : Int) : (selS c cl t).1 = wantOf c cl ∧ (selS c cl t).2.2.2.1 = decide (0 ≤ wantOf c cl) := by
  unfold selS wantOf
  cases cl.findIdx? (isReady c) <;> simp
theorem sel_r_some (c : Chs) (cl : List Nat) (t : Int) (h : 0 ≤ wantOf c cl) : (selS c cl t).2.2.2.2.r = c.r := by
  unfold wantOf at h; unfold selS
  cases hf : cl.findIdx? (isReady c) with
  | none => rw [hf] at h; simp at h
  | some k => rfl
theorem sel_r_none (c : Chs) (cl : List Nat) (t : Int) (h : ¬ 0 ≤ wantOf c cl) : (selS c cl t).2.2.2.2.r = waits t cl c.r := by
  unfold wantOf at h; unfold selS
  cases hf : cl.findIdx? (isReady c) with
  | none => rfl
  | some k => rw [hf] at h; simp at h

/-! ### the first sendings -/
def sendD (rooms : List Int) (i : Nat) (a : Int) (c : Chs) : Chs := (sendS c (around a 4) (around (rooms.getD (around a 4) 0) 4) (10 + (i : Int)) a).2.2
def runF (rooms : List Int) (f : List Int) : Nat → Chs
  | 0 => nulC
  | k + 1 => sendD rooms k (f.getD k 0) (runF rooms f k)
theorem runF_inv (rooms : List Int) (f : List Int) : ∀ k, k ≤ 100 → Inv 4 (5 * k) (runF rooms f k)
  | 0, _ => nul_inv
  | k + 1, h => (runF_inv rooms f k (by omega)).send (by omega) (by have := around_lt (a := f.getD k 0) (m := 4) (by omega); omega) _ _ _
theorem runF_r (rooms : List Int) (f : List Int) : ∀ k, (runF rooms f k).r = nul 4
  | 0 => rfl
  | k + 1 => by
    have ih := runF_r rooms f k
    show (sendS _ _ _ _ _).2.2.r = _
    unfold sendS
    have : row (runF rooms f k).r (around (f.getD k 0) 4) = [] := by
      rw [ih]; unfold row nul; rw [List.getD_eq_getElem?_getD, List.getElem?_replicate]; split <;> rfl
    split
    · rename_i h; rw [this] at h; cases h
    · split
      · exact ih
      · exact ih

theorem waits_all {t : Int} : ∀ (cl : List Nat) (R : Rows), (∀ x ∈ R, ∀ a ∈ x, a = t) → ∀ x ∈ waits t cl R, ∀ a ∈ x, a = t
  | [], _, h => h
  | c :: cl, R, h => waits_all cl (wait t R c) fun x hx a ha => by
    unfold wait at hx
    rcases set_mem hx with rfl | hx
    · rcases List.mem_append.1 ha with h' | h'
      · rcases Nat.lt_or_ge c R.length with hc | hc
        · exact h _ (by rw [List.getD_eq_getElem?_getD, List.getElem?_eq_getElem hc]; exact List.getElem_mem hc) a h'
        · rw [List.getD_eq_getElem?_getD, List.getElem?_eq_none hc] at h'; simp at h'
      · simpa using h'
    · exact h x hx a ha
theorem waits_keep {t : Int} : ∀ (cl : List Nat) (R : Rows) (k : Nat), row R k ≠ [] → row (waits t cl R) k ≠ []
  | [], _, _, h => h
  | c :: cl, R, k, h => waits_keep cl (wait t R c) k (by
    unfold wait
    rcases Nat.lt_or_ge c R.length with hc | hc
    · rw [row_set _ hc]
      split
      · simp
      · exact h
    · rw [List.set_eq_of_length_le hc]; exact h)
theorem waits_in {t : Int} : ∀ (cl : List Nat) (R : Rows) (k : Nat), k ∈ cl → k < R.length → row (waits t cl R) k ≠ []
  | c :: cl, R, k, h, hk => by
    by_cases e : k = c
    · subst e
      exact waits_keep cl (wait t R k) k (by unfold wait; rw [row_set _ hk, if_pos rfl]; simp)
    · exact waits_in cl (wait t R c) k (by simpa [e] using h) (by simp [wait]; exact hk)
theorem any_del (t : Int) (R : Rows) : ((R.map (del t)).any fun l => l.contains t) = false := by
  rw [List.any_eq_false]
  intro x hx
  obtain ⟨y, _, rfl⟩ := List.mem_map.1 hx
  simp [del]
theorem any_nul (t : Int) : ((nul 4).any fun l => l.contains t) = false := by simp [nul]
end Go.Hb
end

section
namespace Go.Hb
open Go Go.Proofs Go.RowKit
attribute [-simp] aC aL aOper aThen aInBlock aIf aPlan grow

set_option maxRecDepth 20000 in
set_option maxHeartbeats 16000000 in
theorem choiceLaw_c {rooms : List Int} (hr : rooms.length = 4) (hri : ∀ a ∈ rooms, I64 a) {f l : List Int} (hf0 : Ints f) (hl0 : Ints l) {ch : Int} (hch : I64 ch) :
    aCalls Try.prog 5 [four rooms, encI f, encI l, .int .i64 ch] [] [] fun y _ _ => y = .bool true := by
  refine aCalls_of Try.func5 rfl (by decide) (by simp [Try.ntmps5]) false ?_
  have hres : Try.f5.results = #[.tmp 8] := rfl
  simp [Try.ntmps5, four]
  refine aCalls_mono (by simpa using new_c (s := [.cells (rooms.map (.int .i64))]) (v := []) (n := 4) (by omega) (by omega)) ?_
  rintro _ _ _ ⟨q, r, p, hf, rfl, rfl, rfl⟩
  have Hb : Base (baseC rooms q r p) 5 q r p 4 := anew_base hf (by omega)
  simp [core]
  refine aCalls_mono (refNew_p (n := 4) (by omega) (by omega) _ _) ?_
  rintro _ _ _ ⟨rfl, rfl, rfl⟩
  simp [dcore]
  have e0 := baseC_eq rooms hf [.cells (dcore (nul 4) (nul 4) (nul 4))]
  simp only [core, dcore] at e0
  rw [e0]
  have hs := same_j (J := [.cells (dcore (nul 4) (nul 4) (nul 4))]) (v := []) Hb nul_inv
  refine aCalls_mono (by simpa [core, dc, dcore, nulC] using hs) ?_
  rintro _ _ _ ⟨rfl, rfl, rfl⟩
  simp
  generalize [AObj.cells [LV.int .i64 0, .nils, .nils, .nils, rows (nul 4), .nils, .nils, .nils, rows (nul 4), rows (nul 4)]] = J
  have hB := baseC_len rooms q r p
  have hz : 0 ≠ q ∧ 0 ≠ r ∧ 0 ≠ p := by unfold fresh at hf; simp at hf; omega
  have hgr : ∀ c X, (putC (baseC rooms q r p) q r p c ++ X)[0]? = some (.cells (rooms.map (.int .i64))) := fun c X => by
    rw [putC_at Hb hz.1 hz.2.1 hz.2.2 (by omega)]; rfl
  have hgc : ∀ c X, (putC (baseC rooms q r p) q r p c ++ X)[5]? = some (.cells (core q r p 4)) := fun c X => by
    rw [List.getElem?_append_left (by simp [hB])]; exact Hb.gi _ _ _
  have htk : List.take 4 (rooms.map (LV.int .i64)) = rooms.map (LV.int .i64) := List.take_of_length_le (by simp; omega)
  refine aW_forC false (min 10 f.length) (fun k st => st.t 11 = .int .i64 k ∧ st.t 1 = encI f ∧ st.t 2 = encI l ∧ st.t 3 = .int .i64 ch ∧ st.t 4 = .ptr 0 0 ∧ st.t 9 = .ptr 5 0 ∧ putC (baseC rooms q r p) q r p (runF rooms f k) ++ J = st.s) ?_ ?_
  · exact ⟨0, Nat.zero_le _, by simp [upd_apply], by simp [upd_apply], by simp [upd_apply], by simp [upd_apply], by simp [upd_apply], by simp [upd_apply], rfl⟩
  rintro k t1 s1 v1 hk ⟨h11, h1, h2, h3, h4, h9, rfl⟩
  simp only at h11 h1 h2 h3 h4 h9
  by_cases hlt : k < min 10 f.length
  · have hkl : k < f.length := by omega
    have hk10 : k < 10 := by omega
    have hkl' : (k : Int) < (f.length : Int) := by omega
    have hk10' : (k : Int) < 10 := by omega
    have hw := wrap_succ hk10 (by omega)
    have hw10 : IntKind.i64.wrap (10 + (k : Int)) = 10 + (k : Int) := IntWalk.i64_in _ ⟨by omega, by omega⟩
    have hI := runF_inv rooms f k (by omega)
    have hfk := hf0.1 _ (List.getElem_mem hkl)
    have hc4 : around f[k] 4 < 4 := by have := around_lt (a := f[k]) (m := 4) (by omega); omega
    have hroom : rooms[around f[k] 4]? = some (rooms.getD (around f[k] 4) 0) := by simp [hr, hc4]
    simp [h11, h1, h2, h3, h4, h9, encI, hkl, hk10, hkl', hk10']
    refine aCalls_mono (around_p (m := 4) (by omega) (by omega) hfk _ _) ?_
    rintro _ _ _ ⟨rfl, rfl, rfl⟩
    simp [h11, h1, h2, h3, h4, h9, encI, hkl]
    refine aW_draw' (.qs [0, 1, 2, 4, 5, 6, 7, 8, 9] (.w 3 [9] (.w 10 [] .nil))) mixed (by kernel_rfl) (by kernel_rfl) ?_
    simp [h11, h1, h2, h3, h4, h9, encI, hkl, hgr, htk, hr, hw10]
    refine aCalls_mono (room_p hr hroom (hri _ (List.mem_of_getElem? hroom)) _ _) ?_
    rintro _ _ _ ⟨rfl, rfl, rfl⟩
    simp [h11, h1, h2, h3, h4, h9, encI, hkl, hgr, htk, hr, hw10]
    refine aCalls_mono (chSend_j Hb hI hc4) ?_
    rintro _ _ v2 ⟨rfl, rfl, hv2⟩
    simp [h11, h1, h2, h3, h4, h9]
    exact hid ⟨hlt, by simp [upd_apply, hw], by simp [upd_apply, h1, encI], by simp [upd_apply, h2, encI], by simp [upd_apply, h3], by simp [upd_apply, h4], by simp [upd_apply, h9], by rw [show runF rooms f (k + 1) = sendD rooms k (f.getD k 0) (runF rooms f k) from rfl, show f.getD k 0 = f[k] by simp [hkl]]; rfl⟩
  · have hx : ¬ (k : Int) < (f.length : Int) ∨ ((k : Int) < (f.length : Int) ∧ ¬ (k : Int) < 10) := by omega
    have hI := runF_inv rooms f k (by omega)
    have hR := runF_r rooms f k
    generalize runF rooms f k = c at *
    have hown4 : ∀ k ∈ choice l 4, k < 4 := fun k hk => by have := choice_lt (m := 4) (by omega) k hk; omega
    have hownl := choice_len l 4
    have hownne := choice_ne l 4
    have hM : 5 * k + 5 ≤ 900000 := by omega
    have hW : wantOf c (choice l 4) = -1 ∨ 0 ≤ wantOf c (choice l 4) := by unfold wantOf; cases (choice l 4).findIdx? (isReady c) <;> simp
    rcases hx with h8 | ⟨h8, h9'⟩
    all_goals
      first | simp [h11, h1, h2, h3, h4, h9, encI, h8, h9'] | simp [h11, h1, h2, h3, h4, h9, encI, h8]
      refine aCalls_mono (choice_p (m := 4) (l := l) (.inl rfl) (by omega) (by omega) hl0.1 _ _) ?_
      rintro _ _ v2 ⟨rfl, rfl, hv2⟩
      simp [h11, h1, h2, h3, h4, h9]
      generalize choice l 4 = own at *
      refine aW_forC false own.length (fun j st => (0 < j → wantOf c (own.take (j - 1)) < 0) ∧ st.t 14 = .int .i64 (wantOf c (own.take j)) ∧ st.t 15 = .int .i64 j ∧ st.t 13 = encI (ints own) ∧ st.t 3 = .int .i64 ch ∧ st.t 9 = .ptr 5 0 ∧ putC (baseC rooms q r p) q r p c ++ J = st.s) ?_ ?_
      · exact ⟨0, Nat.zero_le _, fun h => absurd h (Nat.lt_irrefl _), by simp [upd_apply, wantOf], by simp [upd_apply], by simp [upd_apply], by simp [upd_apply, h3], by simp [upd_apply, h9], rfl⟩
      clear h11 h1 h2 h3 h4 h9 h8
      rintro j t2 s2 v3 hj ⟨hprev, h14, h15, h13, h3, h9, rfl⟩
      simp only at h14 h15 h13 h3 h9
      by_cases hgo : j < own.length ∧ wantOf c (own.take j) < 0
      · obtain ⟨hjl, hneg⟩ := hgo
        have hjl' : (j : Int) < (own.length : Int) := by omega
        have hwj := wrap_succ hjl (by omega)
        have hil : j < (ints own).length := by rw [ints_len]; exact hjl
        have hci : (ints own)[j] = (own[j] : Int) := by simp [ints]
        have hsucc := want_succ c hjl hneg
        have hm1 : wantOf c (own.take j) = -1 := by
          unfold wantOf at hneg ⊢
          cases hh : (own.take j).findIdx? (isReady c) with
          | none => rfl
          | some i => rw [hh] at hneg; simp at hneg; omega
        simp [h14, h15, h13, h3, h9, encI, ints_len, hjl, hneg]
        refine aW_draw' (.qs [0, 1, 2, 3, 4] (.w 5 [] (.qs [6] .nil))) mixed (by kernel_rfl) (by kernel_rfl) ?_
        simp [h14, h15, h13, h3, h9, encI, ints_len, hjl, hil, hci, hgc, core]
        refine aCalls_mono (chReady_j Hb hI (hown4 _ (List.getElem_mem hjl))) ?_
        rintro _ _ _ ⟨rfl, rfl, rfl⟩
        cases hrd : isReady c own[j] with
        | true =>
          simp [h14, h15, h13, h3, h9]
          exact hid ⟨hjl, fun _ => hneg, by rw [hsucc, if_pos hrd]; simp [upd_apply], by simp [upd_apply, hwj], by simp [upd_apply, h13, encI, ints_len], by simp [upd_apply, h3], by simp [upd_apply, h9], rfl⟩
        | false =>
          simp [h14, h15, h13, h3, h9]
          exact hid ⟨hjl, fun _ => hneg, by rw [hsucc, if_neg (by rw [hrd]; simp)]; simp [upd_apply, h14, hm1], by simp [upd_apply, hwj], by simp [upd_apply, h13, encI, ints_len], by simp [upd_apply, h3], by simp [upd_apply, h9], rfl⟩
      · have hall : wantOf c (own.take j) = wantOf c own := by
          rcases Nat.lt_or_ge j own.length with h | h
          · exact want_some c (fun hn => hgo ⟨h, hn⟩)
          · rw [List.take_of_length_le h]
        rw [hall] at h14
        have hcond : (¬ (j : Int) < (own.length : Int)) ∨ ((j : Int) < (own.length : Int) ∧ ¬ wantOf c own < 0) := by
          rcases Nat.lt_or_ge j own.length with h | h
          · right; exact ⟨by omega, fun hn => hgo ⟨h, by rw [hall]; exact hn⟩⟩
          · left; omega
        obtain ⟨sw1, sw2⟩ := sel_want c own 1
        have hI2 := hI.sel hM hownl hown4 1
        have hsel := fun v => chSelect_j (J := J) (v := v) (t := 1) Hb hI hownl hown4
        have hcan := fun v => chCancel_j (J := J) (v := v) (t := 1) Hb hI2
        have hown0 : 0 < own.length := by have : own.length ≠ 0 := (fun e => hownne (List.eq_nil_of_length_eq_zero e)); omega
        have hrs := sel_r_some c own 1
        have hrn := sel_r_none c own 1
        generalize selS c own 1 = res at *
        have hk1 := around_lt (a := ch) (m := own.length) (by omega)
        have hk1' : around ch own.length < own.length := by omega
        have hki : around ch own.length < (ints own).length := by rw [ints_len]; exact hk1'
        have hkc : (ints own)[around ch own.length] = (own[around ch own.length] : Int) := by simp [ints]
        have hk4 := hown4 _ (List.getElem_mem hk1')
        have hil5 : (ints own).length ≤ 1000000 := by rw [ints_len]; omega
        have h99 : at_ (ints own) 99 = -1 := idx_none fun i hi => by
          have hi' : i < own.length := by rwa [ints_len] at hi
          have := hown4 _ (List.getElem_mem hi')
          simp [ints]; omega
        have hsend := fun v => chSend_j (J := J) (v := v) (room := 0) (t := 2) (x := 7) Hb hI2 hk4
        have hI3 := hI2.send (by omega) hk4 0 2 7
        have hcan3 := fun v => chCancel_j (J := J) (v := v) (t := 1) Hb hI3
        have hencI : encI (ints own) = .imm 1 own.length ((ints own).map (.int .i64)) .no := by simp [encI, ints_len]
        have hx1 := fun x => chIndex_p (l := ints own) (x := x) hil5
        have hx2 := fun x s v => refIndex_c (l := ints own) (x := x) (s := s) (v := v) hil5
        rw [hencI] at hx1 hx2 hsel
        rcases hcond with c1 | ⟨c1, c2⟩
        all_goals
          first | simp [h14, h15, h13, h3, h9, encI, ints_len, c1, c2] | simp [h14, h15, h13, h3, h9, encI, ints_len, c1]
          refine aCalls_mono (hsel _) ?_
          rintro _ _ v4 ⟨rfl, rfl, hv4⟩
          simp [h14, h15, h13, h3, h9, sw1, sw2]
          by_cases hw0 : 0 ≤ wantOf c own
          · simp [hw0, h9]
            refine aCalls_mono (hcan _) ?_
            rintro _ _ _ ⟨rfl, rfl, rfl⟩
            have ha : (res.2.2.2.2.r.any fun l => l.contains 1) = false := by rw [hrs hw0, hR]; exact any_nul 1
            simp only [ha]
            simp
            refine aCalls_mono lives_c ?_
            rintro _ _ v5 ⟨rfl, rfl, hv5⟩
            simp [hres]
          · have hrr := hrn hw0
            have hone : ∀ x ∈ res.2.2.2.2.r, ∀ a ∈ x, a = 1 := by
              rw [hrr]; exact waits_all own c.r (by rw [hR]; simp [nul])
            have hne : row res.2.2.2.2.r own[around ch own.length] ≠ [] := by
              rw [hrr]; exact waits_in own c.r _ (List.getElem_mem hk1') (by rw [hI.sz.r]; exact hk4)
            have hsnd : sendS res.2.2.2.2 own[around ch own.length] 0 2 7 = (1, true, ⟨res.2.2.2.2.b, res.2.2.2.2.s, res.2.2.2.2.r.map (del 1)⟩) := by
              unfold sendS
              split
              · rename_i f ρ he
                have hf1 : f = 1 := hone _ (row_mem (by rw [hI2.sz.r]; exact hk4)) f (by rw [he]; simp)
                rw [hf1]
              · rename_i he; exact absurd he hne
            rw [hsnd] at hcan3
            simp only [hsnd] at hsend
            simp [hw0, h9, h13, h3, encI, ints_len]
            refine aCalls_mono (around_p (m := own.length) (by omega) (by omega) hch _ _) ?_
            rintro _ _ _ ⟨rfl, rfl, rfl⟩
            simp [h9, h13, h3, encI, ints_len, hk1', hki, hkc]
            refine aCalls_mono (hsend _) ?_
            rintro _ _ v5 ⟨rfl, rfl, hv5⟩
            simp [h9, h13, h3, encI, ints_len]
            refine aCalls_mono (hcan3 _) ?_
            rintro _ _ _ ⟨rfl, rfl, rfl⟩
            simp only [any_del]
            simp [h9, h13, h3, encI, ints_len]
            refine aCalls_mono (hx1 _ _ _) ?_
            rintro _ _ _ ⟨rfl, rfl, rfl⟩
            simp [h9, h13, h3, encI, ints_len]
            refine aCalls_mono (hx2 _ _ _) ?_
            rintro _ _ _ ⟨rfl, rfl, rfl⟩
            simp [h9, h13, h3, encI, ints_len]
            refine aCalls_mono (hx1 99 _ _) ?_
            rintro _ _ _ ⟨rfl, rfl, rfl⟩
            simp [h99]
            refine aCalls_mono lives_c ?_
            rintro _ _ v6 ⟨rfl, rfl, hv6⟩
            simp [hres]
end Go.Hb
end

