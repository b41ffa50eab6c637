/-
  A layer for reasoning about the program's calls, and contracts of its functions (C7). CONDITIONS: none; each theorem bears its own.
-/
import Derived.Test.YtgaaocndjaoihaaC6
set_option linter.unusedVariables false
set_option linter.unusedSimpArgs false
namespace Go.Hb
open Go Go.Proofs Go.RowKit
attribute [-simp] aC aL aOper aThen aInBlock aIf aPlan grow

/-! ### where one waits to receive, nothing lies -/
structure HoldAt (m : Nat) (b σ ρ : List Int) : Prop where
  most : b.length ≤ m
  full : σ ≠ [] → m ≤ b.length
  wait : ρ ≠ [] → b = [] ∧ σ = []
def Hold (rooms : List Int) (c : Chs) : Prop := ∀ ch, ch < 4 → HoldAt (around (rooms.getD ch 0) 4) (row c.b ch) (row c.s ch) (row c.r ch)

theorem row_set {L : Rows} {ch : Nat} (x : List Int) (h : ch < L.length) (k : Nat) : row (L.set ch x) k = if ch = k then x else row L k := by
  unfold row
  rw [List.getD_eq_getElem?_getD, List.getD_eq_getElem?_getD]
  split
  · rename_i e; subst e; rw [List.getElem?_set_self h]; rfl
  · rename_i e; rw [List.getElem?_set_ne e]
theorem row_map (f : Int) (L : Rows) (k : Nat) : row (L.map (del f)) k = del f (row L k) := by
  unfold row
  rw [List.getD_eq_getElem?_getD, List.getD_eq_getElem?_getD, List.getElem?_map]
  cases L[k]? <;> simp [del]
theorem HoldAt.del {m : Nat} {b σ ρ : List Int} (h : HoldAt m b σ ρ) (f : Int) : HoldAt m b σ (Hb.del f ρ) := ⟨h.most, h.full, fun hr => h.wait fun e => hr (by rw [e]; rfl)⟩
theorem hold_del {rooms : List Int} {c : Chs} (h : Hold rooms c) (f : Int) : Hold rooms ⟨c.b, c.s, c.r.map (del f)⟩ := fun ch hc => by
  show HoldAt _ _ _ (row (c.r.map (del f)) ch)
  rw [row_map]; exact (h ch hc).del f

theorem hold_send {M : Nat} {rooms : List Int} {c : Chs} (I : Inv 4 M c) (h : Hold rooms c) {ch : Nat} (hch : ch < 4) (t x : Int) : Hold rooms (sendS c ch (around (rooms.getD ch 0) 4) t x).2.2 := by
  unfold sendS
  split
  · exact hold_del h _
  · rename_i he
    have hh := h ch hch
    split
    · rename_i hl
      intro k hk
      show HoldAt _ (row (c.b.set ch _) k) _ _
      rw [row_set _ (by rw [I.sz.b]; exact hch)]
      split
      · rename_i e; subst e
        have hs : row c.s ch = [] := Classical.byContradiction fun hne => by have := hh.full hne; omega
        exact ⟨by rw [List.length_append]; simp only [List.length_cons, List.length_nil]; omega, fun hne => absurd hs hne, fun hr => absurd he hr⟩
      · exact h k hk
    · rename_i hl
      intro k hk
      show HoldAt _ _ (row (c.s.set ch _) k) _
      rw [row_set _ (by rw [I.sz.s]; exact hch)]
      split
      · rename_i e; subst e
        exact ⟨hh.most, fun _ => (by omega : around (rooms.getD ch 0) 4 ≤ (row c.b ch).length), fun hr => absurd he hr⟩
      · exact h k hk

theorem HoldAt.take {m : Nat} {b σ ρ : List Int} (h : HoldAt m b σ ρ) (h0 : 0 < b.length + σ.length) (he : σ.length % 2 = 0) : HoldAt m (takeOut b σ).2.2.1 (takeOut b σ).2.2.2 ρ := by
  have hr : ρ = [] := Classical.byContradiction fun hne => by obtain ⟨h1, h2⟩ := h.wait hne; subst h1; subst h2; simp at h0
  subst hr
  cases b with
  | nil =>
    match σ, he, h0, h with
    | a :: c :: σ, _, _, h =>
      have := h.full (by simp)
      exact ⟨Nat.zero_le _, fun _ => this, fun hne => absurd rfl hne⟩
    | [a], he, _, _ => simp at he
  | cons y b =>
    match σ, he, h with
    | [], _, h => exact ⟨by have := h.most; simp [takeOut] at this ⊢; omega, fun hne => absurd rfl hne, fun hne => absurd rfl hne⟩
    | a :: c :: σ, _, h =>
      have h1 := h.most
      have h2 := h.full (by simp)
      exact ⟨by simpa [takeOut] using h1, fun _ => by simpa [takeOut] using h2, fun hne => absurd rfl hne⟩
    | [a], he, _ => simp at he

theorem hold_taken {M : Nat} {rooms : List Int} {c : Chs} (I : Inv 4 M c) (h : Hold rooms c) {ch : Nat} (hch : ch < 4) (hr : isReady c ch = true) : Hold rooms (taken c ch) := by
  intro k hk
  show HoldAt _ (row (c.b.set ch _) k) (row (c.s.set ch _) k) _
  rw [row_set _ (by rw [I.sz.b]; exact hch), row_set _ (by rw [I.sz.s]; exact hch)]
  by_cases e : ch = k
  · subst e
    rw [if_pos rfl, if_pos rfl]
    exact (h ch hch).take (by simpa [isReady] using hr) (I.ev _ (row_mem (by rw [I.sz.s]; exact hch)))
  · rw [if_neg e, if_neg e]; exact h k hk

theorem waits_ne {t : Int} : ∀ (cl : List Nat) (R : Rows) (k : Nat), row (waits t cl R) k ≠ [] → row R k ≠ [] ∨ k ∈ cl
  | [], _, _, h => .inl h
  | c :: cl, R, k, h => by
    rcases waits_ne cl (wait t R c) k h with h' | h'
    · by_cases e : c = k
      · right; simp [e]
      · left
        unfold wait row at h'
        rw [List.getD_eq_getElem?_getD, List.getElem?_set_ne e] at h'
        unfold row; rw [List.getD_eq_getElem?_getD]; exact h'
    · right; simp [h']

theorem hold_waits {M : Nat} {rooms : List Int} {c : Chs} (I : Inv 4 M c) (h : Hold rooms c) {cl : List Nat} (hcl : ∀ k ∈ cl, k < 4 ∧ ¬ isReady c k = true) (t : Int) : Hold rooms ⟨c.b, c.s, waits t cl c.r⟩ := by
  intro k hk
  have hh := h k hk
  refine ⟨hh.most, hh.full, fun hne => ?_⟩
  rcases waits_ne cl c.r k hne with h' | h'
  · exact hh.wait h'
  · obtain ⟨h1, h2⟩ := not_ready I hk (hcl k h').2
    rw [row_at (by rw [I.sz.b]; exact hk)] at h1
    rw [row_at (by rw [I.sz.s]; exact hk)] at h2
    exact ⟨Option.some.inj h1, Option.some.inj h2⟩

theorem hold_step {M : Nat} {rooms : List Int} {c : Chs} (I : Inv 4 M c) (h : Hold rooms c) (k tt cc vv : Int) (l : List Int) : Hold rooms (stepS rooms k tt cc vv l c) := by
  have hch : around cc 4 < 4 := by have := around_lt (a := cc) (m := 4) (by omega); omega
  unfold stepS
  split
  · exact hold_del h _
  split
  · exact h
  split
  · exact hold_send I h hch _ _
  split
  · unfold recvS
    split
    · rename_i hr; exact hold_taken I h hch hr
    · rename_i hr; exact hold_waits (cl := [around cc 4]) I h (by simp; exact ⟨hch, by simpa using hr⟩) _
  · unfold selS
    have hl : ∀ k ∈ choice l 4, k < 4 := fun k hk => by have := choice_lt (m := 4) (by omega) k hk; omega
    split
    · rename_i j hj
      obtain ⟨hjl, hp, _⟩ := List.findIdx?_eq_some_iff_getElem.1 hj
      have hg : (choice l 4).getD j 0 = (choice l 4)[j] := by simp [hjl]
      rw [hg]
      exact hold_taken I h (hl _ (List.getElem_mem hjl)) hp
    · rename_i hj
      have hall := List.findIdx?_eq_none_iff.1 hj
      exact hold_waits I h (fun k hk => ⟨hl k hk, by simp [hall k hk]⟩) _

theorem hold_run (rooms : List Int) (l : List DeedV) : ∀ k, k ≤ 100 → k ≤ l.length → Hold rooms (runD rooms l k)
  | 0, _, _ => fun ch hc => by
    have : row (nul 4) ch = [] := by unfold row nul; rw [List.getD_eq_getElem?_getD, List.getElem?_replicate]; split <;> rfl
    show HoldAt _ (row (nul 4) ch) (row (nul 4) ch) (row (nul 4) ch)
    rw [this]
    exact ⟨Nat.zero_le _, fun h => absurd rfl h, fun h => absurd rfl h⟩
  | k + 1, h, hl => by
    rw [runD_succ rooms (by omega)]
    exact hold_step (run_inv rooms l k (by omega) (by omega)) (hold_run rooms l k (by omega) (by omega)) _ _ _ _ _

set_option maxRecDepth 20000 in
set_option maxHeartbeats 16000000 in
theorem hold_c {rooms : List Int} (hr : rooms.length = 4) (hri : ∀ a ∈ rooms, I64 a) {l : List DeedV} (hd : ∀ d ∈ l, DeedOk d) (hlen : l.length ≤ maxLen) :
    aCalls Try.prog 3 [four rooms, deeds l] [] [] fun y _ _ => y = .bool true := by
  refine aCalls_of Try.func3 rfl (by decide) (by simp [Try.ntmps3]) false ?_
  have hres : Try.f3.results = #[.tmp 4] := rfl
  simp [Try.ntmps3, four]
  refine aCalls_mono (by simpa using new_c (s := [.cells (rooms.map (.int .i64))]) (v := []) (n := 4) (by omega) (by omega)) ?_
  rintro _ _ _ ⟨q, r, p, hf, rfl, rfl, rfl⟩
  have Hb : Base (baseC rooms q r p) 5 q r p 4 := anew_base hf (by omega)
  simp [core]
  refine aCalls_mono (refNew_p (n := 4) (by omega) (by omega) _ _) ?_
  rintro _ _ _ ⟨rfl, rfl, rfl⟩
  simp [dcore]
  have e0 := baseC_eq rooms hf [.cells (dcore (nul 4) (nul 4) (nul 4))]
  simp only [core, dcore] at e0
  rw [e0]
  have hs := same_j (J := [.cells (dcore (nul 4) (nul 4) (nul 4))]) (v := []) Hb nul_inv
  refine aCalls_mono (by simpa [core, dc, dcore, nulC] using hs) ?_
  rintro _ _ _ ⟨rfl, rfl, rfl⟩
  simp
  have hB := baseC_len rooms q r p
  have hg0 : ∀ c X, (putC (baseC rooms q r p) q r p c ++ X)[6]? = X[0]? := fun c X => get_at0 (by simp [hB])
  have hg1 : ∀ c X k, (putC (baseC rooms q r p) q r p c ++ X)[6 + k]? = X[k]? := fun c X k => get_at (by simp [hB]) k
  have hs0 : ∀ c X o, (putC (baseC rooms q r p) q r p c ++ X).set 6 o = putC (baseC rooms q r p) q r p c ++ X.set 0 o := fun c X o => set_at0 (by simp [hB]) o
  have hs1 : ∀ c X k o, (putC (baseC rooms q r p) q r p c ++ X).set (6 + k) o = putC (baseC rooms q r p) q r p c ++ X.set k o := fun c X k o => set_at (by simp [hB]) k o
  have hz : 0 ≠ q ∧ 0 ≠ r ∧ 0 ≠ p := by unfold fresh at hf; simp at hf; omega
  have hgr : ∀ c X, (putC (baseC rooms q r p) q r p c ++ X)[0]? = some (.cells (rooms.map (.int .i64))) := fun c X => by
    rw [putC_at Hb hz.1 hz.2.1 hz.2.2 (by omega)]; rfl
  have hgc : ∀ c X, (putC (baseC rooms q r p) q r p c ++ X)[5]? = some (.cells (core q r p 4)) := fun c X => by
    rw [List.getElem?_append_left (by simp [hB])]; exact Hb.gi _ _ _
  have hql : q < (baseC rooms q r p).length := Hb.hq
  have hrl : r < (baseC rooms q r p).length := Hb.hr
  have hpl : p < (baseC rooms q r p).length := Hb.hp
  have hgq : ∀ c X, (putC (baseC rooms q r p) q r p c ++ X)[q]? = some (.cells (c.b.map encI)) := fun c X => by
    rw [List.getElem?_append_left (by simpa using hql)]; exact Hb.gq _ _ _
  have hgR : ∀ c X, (putC (baseC rooms q r p) q r p c ++ X)[r]? = some (.cells (c.s.map encI)) := fun c X => by
    rw [List.getElem?_append_left (by simpa using hrl)]; exact Hb.gr _ _ _
  have hgp : ∀ c X, (putC (baseC rooms q r p) q r p c ++ X)[p]? = some (.cells (c.r.map encI)) := fun c X => by
    rw [List.getElem?_append_left (by simpa using hpl)]; exact Hb.gp _ _ _
  have htk : List.take 4 (rooms.map (LV.int .i64)) = rooms.map (LV.int .i64) := List.take_of_length_le (by simp; omega)
  refine aW_forC false (min 60 l.length) (fun k st => ∃ Jx, st.t 7 = .int .i64 k ∧ st.t 1 = deeds l ∧ st.t 2 = .ptr 0 0 ∧ st.t 5 = .ptr 5 0 ∧ st.t 6 = .ptr 6 0 ∧
    putC (baseC rooms q r p) q r p (runD rooms l k) ++ .cells (dcore (runD rooms l k).b (runD rooms l k).s (runD rooms l k).r) :: Jx = st.s) ?_ ?_
  · exact ⟨0, Nat.zero_le _, [], by simp [upd_apply], by simp [upd_apply], by simp [upd_apply], by simp [upd_apply], by simp [upd_apply], rfl⟩
  rintro k t1 s1 v1 hk ⟨Jx, h7, h1, h2, h5, h6, rfl⟩
  simp only at h7 h1 h2 h5 h6
  by_cases hlt : k < min 60 l.length
  · have hkl : k < l.length := by omega
    have hk60 : k < 60 := by omega
    have hkl' : (k : Int) < (l.length : Int) := by omega
    have hk60' : (k : Int) < 60 := by omega
    have hw := wrap_succ hk60 (by omega)
    have hI2 := run_inv rooms l (k + 1) (by omega) (by omega)
    have hH2 := hold_run rooms l (k + 1) (by omega) (by omega)
    have hdk := hd _ (List.getElem_mem hkl)
    have hda := deeds_at l k hkl
    have hx5 : ∀ d, (deedX d).length = 5 := fun _ => rfl
    have htk5 : ∀ d X, List.take 5 (deedX d ++ X) = deedX d := fun d X => List.take_left' rfl
    have hj := fun J v => does_j (J := J) (v := v) Hb (run_inv rooms l k (by omega) (by omega)) (by omega) hr hri hdk
    have hc2 : runD rooms l (k + 1) = stepD rooms l[k] (runD rooms l k) := by rw [runD_succ rooms hkl]
    rw [hc2] at hI2 hH2
    generalize hc : runD rooms l k = c at *
    have hdl : (l.flatMap deedX).length = l.length * 5 := by
      clear hd hlen hk hlt hkl hkl' hI2 hH2 hdk hda h1 hk60 hk60' hw h7 hj hc2 hc
      induction l with
      | nil => rfl
      | cons a l ih => rw [List.flatMap_cons, List.length_append, ih]; simp [deedX]; omega
    simp [h7, h1, h2, h5, h6, deeds, hkl, hk60, hkl', hk60']
    refine aW_draw' (.qs [0, 1, 2, 3, 4, 5] (.or (.w 6 [] (.qs [7, 8, 9] (.w 10 [] (.w 11 [] (.qs [12] .nil))))) (.w 10 [5, 1, 0] (.w 6 [] (.qs [7, 8, 9] (.w 11 [] (.qs [12] .nil))))))) mixed (by kernel_rfl) (by kernel_rfl) ?_
    simp [h7, h1, h2, h5, h6, deeds, hkl, hk60, hkl', hk60', hg0, hg1, hgr, hgc, hda, htk, hr, dcore, hx5, htk5]
    generalize hc' : stepD rooms l[k] c = c' at *
    constructor
    all_goals
      refine aCalls_mono (hj _ _) ?_
      rintro _ _ v2 ⟨rfl, rfl, hv2⟩
      simp [h7, h1, h2, h5, h6, hg0, hg1, hs0, hs1, hgr, hgc, set_last, dc, dcore, core]
      refine aW_forC false 4 (fun ch st => ∃ Jx, st.t 10 = .int .i64 ch ∧ st.t 7 = .int .i64 k ∧ st.t 1 = deeds l ∧ st.t 2 = .ptr 0 0 ∧ st.t 5 = .ptr 5 0 ∧ st.t 6 = .ptr 6 0 ∧
        putC (baseC rooms q r p) q r p c' ++ .cells (dcore c'.b c'.s c'.r) :: Jx = st.s) ?_ ?_
      · exact ⟨0, Nat.zero_le _, _, by simp [upd_apply], by simp [upd_apply, h7], by simp [upd_apply, h1, deeds], by simp [upd_apply, h2], by simp [upd_apply, h5], by simp [upd_apply, h6], rfl⟩
      clear h7 h1 h2 h5 h6
      rintro ch t2 s2 v3 hch ⟨Jy, h10, h7, h1, h2, h5, h6, rfl⟩
      simp only at h10 h7 h1 h2 h5 h6
      by_cases hc4 : ch < 4
      · have hc4' : (ch : Int) < 4 := by omega
        have hwc := wrap_succ hc4 (by omega)
        have hb := row_at (L := c'.b) (ch := ch) (by rw [hI2.sz.b]; exact hc4)
        have hsg := row_at (L := c'.s) (ch := ch) (by rw [hI2.sz.s]; exact hc4)
        have hrg := row_at (L := c'.r) (ch := ch) (by rw [hI2.sz.r]; exact hc4)
        have hroom : rooms[ch]? = some (rooms.getD ch 0) := by simp [hr, hc4]
        have hat := hH2 ch hc4
        have e1 : ¬ ((around (rooms.getD ch 0) 4 : Int) < ((row c'.b ch).length : Int)) := by have := hat.most; omega
        simp [h10, h7, h1, h2, h5, h6, hc4', hc4, hg0, hg1, hgc, hgq, hgr, core, hb, encI, htk, hr]
        refine aCalls_mono (room_p hr hroom (hri _ (List.mem_of_getElem? hroom)) _ _) ?_
        rintro _ _ _ ⟨rfl, rfl, rfl⟩
        simp only [List.getD_eq_getElem?_getD] at e1
        by_cases hσ : row c'.s ch = []
        · by_cases hρ : row c'.r ch = []
          · simp [h10, h7, h1, h2, h5, h6, hc4', hc4, hg0, hg1, hgc, hgq, hgR, hgp, core, hsg, hrg, encI, e1, hσ, hρ]
            exact hid ⟨hc4, _, by simp [upd_apply, hwc], by simp [upd_apply, h7], by simp [upd_apply, h1], by simp [upd_apply, h2], by simp [upd_apply, h5], by simp [upd_apply, h6], rfl⟩
          · have hb0 := (hat.wait hρ).1
            have e3 : ¬ (((around (rooms[ch]?.getD 0) 4 : Nat) : Int) < 0) := by omega
            have hrl : 0 < (row c'.r ch).length := by have : (row c'.r ch).length ≠ 0 := (fun e => hρ (List.eq_nil_of_length_eq_zero e)); omega
            simp [h10, h7, h1, h2, h5, h6, hc4', hc4, hg0, hg1, hgc, hgq, hgR, hgp, core, hsg, hrg, encI, e1, e3, hσ, hb0, hrl]
            exact hid ⟨hc4, _, by simp [upd_apply, hwc], by simp [upd_apply, h7], by simp [upd_apply, h1], by simp [upd_apply, h2], by simp [upd_apply, h5], by simp [upd_apply, h6], rfl⟩
        · have hρ : row c'.r ch = [] := Classical.byContradiction fun hne => hσ (hat.wait hne).2
          have hsl : 0 < (row c'.s ch).length := by have : (row c'.s ch).length ≠ 0 := (fun e => hσ (List.eq_nil_of_length_eq_zero e)); omega
          have e2 : ¬ (((row c'.b ch).length : Int) < (around (rooms.getD ch 0) 4 : Int)) := by have := hat.full hσ; omega
          simp only [List.getD_eq_getElem?_getD] at e2
          simp [h10, h7, h1, h2, h5, h6, hc4', hc4, hg0, hg1, hgc, hgq, hgR, hgp, core, hsg, hrg, encI, e1, e2, hρ, hsl]
          exact hid ⟨hc4, _, by simp [upd_apply, hwc], by simp [upd_apply, h7], by simp [upd_apply, h1], by simp [upd_apply, h2], by simp [upd_apply, h5], by simp [upd_apply, h6], rfl⟩
      · have hge : ¬ ((ch : Int) < 4) := by omega
        simp [h10, h7, h1, h2, h5, h6, hge]
        exact hid ⟨hlt, _, by simp [upd_apply, hw], by simp [upd_apply, h1, deeds], by simp [upd_apply, h2], by simp [upd_apply, h5], by simp [upd_apply, h6], by rw [hc2]; rfl⟩
  · have hx : ¬ (k : Int) < (l.length : Int) ∨ ((k : Int) < (l.length : Int) ∧ ¬ (k : Int) < 60) := by omega
    rcases hx with h8 | ⟨h8, h9⟩
    · simp [h7, h1, h2, h5, h6, deeds, h8]
      refine aCalls_mono lives_c ?_
      rintro _ _ v2 ⟨rfl, rfl, hv2⟩
      simp [hres]
    · simp [h7, h1, h2, h5, h6, deeds, h8, h9]
      refine aCalls_mono lives_c ?_
      rintro _ _ v2 ⟨rfl, rfl, hv2⟩
      simp [hres]
end Go.Hb
