/-
  A layer for reasoning about the program's calls, and contracts of its functions (D5). CONDITIONS: none; each theorem bears its own.
-/
import Derived.Test.YtodibkcciihodaaD4
set_option linter.unusedVariables false
set_option linter.unusedSimpArgs false
section
namespace Go.Hb
open Go Go.Proofs Go.RowKit
attribute [-simp] aC aL aOper aThen aInBlock aIf aPlan aAppend

def ks (R : List Tm) : List Int := R.map Prod.snd
def early (now : Int) (t : Tm) : Bool := decide (t.1 ≤ now)
theorem ks_len (R : List Tm) : (ks R).length = R.length := by simp [ks]

def grI (v : List Nat) (c : Nat) (l : List Int) : LV := grV 1 v c l.length (l.map (.int .i64))
theorem app_ints {v : List Nat} {c : Nat} {l : List Int} {a : Int} {r : Right} {s : List AObj} (hl : l.length + 1 ≤ 1000000) (h0 : c = 0 → l = []) :
    aAppend Try.prog 22 22 (grI v c l) (.imm 1 1 [.int .i64 a] r) s (grT v c) = some (grI v (c + 1) (l ++ [a]), grT v (c + 1)) := by
  have := aAppend_gr (P := Try.prog) (t := 22) (t2 := 22) (v := v) (c := c) (n := l.length) (m := 1) (cs := l.map (.int .i64)) (ds := [.int .i64 a]) (y := .imm 1 1 [.int .i64 a] r) (s := s) (by simp; rfl) (by simp; rfl) (by simp; rfl) (by simp; rfl) (by simp) (by simp) (by simp) (by simp) (by omega) (by unfold maxLen; omega) (by omega) (fun h => by rw [h0 h]; simp)
  unfold grI
  rw [this]; simp
abbrev ints (l : List Int) : LV := encI l
theorem grI_weak (v : List Nat) (c : Nat) (l : List Int) (h : c = 0 → l = []) : Weak (grI v c l) (ints l) := grV_weak _ _ _ _ _ fun e => by rw [h e]; simp

section
variable {s : List AObj} {v : List Nat} {hp mid : Nat} {lo : Option Nat} {ts R : List Tm} {st : Int}

def DPost (s : List AObj) (hp mid : Nat) (lo : Option Nat) (R : List Tm) (now st : Int) (v : List Nat) (y : LV) (s' : List AObj) (v' : List Nat) : Prop :=
  ∃ (ts' : List Tm) (N : Nat), y = ints (ks (R.takeWhile (early now))) ∧ HT s' hp mid lo ts' (st + N) ∧ Good ts' (R.dropWhile (early now)) ∧ N ≤ 3 * ((R.takeWhile (early now)).length * dg R.length) ∧ Same hp mid lo s s' ∧ v <+: v'

theorem dg_le (n : Nat) : dg n ≤ n := by
  induction n using Nat.strongRecOn with
  | _ n ih =>
    rw [dg]
    split
    · omega
    · have := ih (n / 2) (by omega); omega

set_option maxRecDepth 10000 in
set_option maxHeartbeats 8000000 in
theorem due_c (H : HT s hp mid lo ts st) (G : Good ts R) {now : Int} (hn : R.length ≤ 1000) (hst : 0 ≤ st ∧ st ≤ 390000000) :
    aCalls Try.prog 12 [.ptr hp 0, .int .i64 now] s v (DPost s hp mid lo R now st v) := by
  refine aCalls_weak ?_
  refine aCalls_of Try.func12 rfl (by decide) (by simp [Try.ntmps12]) false ?_
  have hres : Try.f12.results = #[.tmp 4] := rfl
  simp [Try.ntmps12]
  refine aW_downC false (fun d st' => ∃ R1 K ts' N, R1.length = d ∧ Good ts' R1 ∧ R.dropWhile (early now) = R1.dropWhile (early now) ∧ K ++ ks (R1.takeWhile (early now)) = ks (R.takeWhile (early now)) ∧ HT st'.s hp mid lo ts' (st + (N : Nat)) ∧ N ≤ 3 * (K.length * dg R.length) ∧ K.length + R1.length = R.length ∧ Same hp mid lo s st'.s ∧
    st'.t 0 = .ptr hp 0 ∧ st'.t 1 = .int .i64 now ∧ st'.t 5 = grI v K.length K ∧ grT v K.length = st'.v) ?_ ?_
  · exact ⟨R.length, R, [], ts, 0, rfl, G, rfl, rfl, by simpa using H, by simp, by simp, Same.refl _ _ _ _, by simp [upd_apply], by simp [upd_apply], by simp [upd_apply, grI, grV], rfl⟩
  rintro d t1 s1 v1 ⟨R1, K, ts', N, hd, G1, e1, e2, H1, hN, hlen, hS, h0, h1, h5, rfl⟩
  simp only at h0 h1 h5 H1 hS
  have hD := dg_le R.length
  have hmul : K.length * dg R.length ≤ 1000 * 1000 := Nat.mul_le_mul (by omega) (by omega)
  have fin : ∀ v2, R1.takeWhile (early now) = [] → R1.dropWhile (early now) = R1 → v <+: v2 → ∃ y, Weak (grI v K.length K) y ∧ ∃ s'', WeakS s1 s'' ∧ DPost s hp mid lo R now st v y s'' v2 := fun v2 h h' hv => by
    rw [h] at e2
    simp only [ks, List.map_nil, List.append_nil] at e2
    have hl : K.length = (R.takeWhile (early now)).length := by rw [e2]; simp
    refine ⟨_, grI_weak _ _ _ (fun h => List.length_eq_zero_iff.1 h), s1, WeakS.refl _, ts', N, by rw [ks, ← e2], H1, by rw [e1, h']; exact G1, by rw [← hl]; exact hN, hS, hv⟩
  simp [h0]
  refine aCalls_mono (first_c H1) ?_
  rintro _ _ _ ⟨rfl, rfl, rfl⟩
  cases R1 with
  | nil =>
    have e : ts' = [] := G1.perm.eq_nil
    subst e
    simp [firstV, h5, hres]
    exact fin _ rfl rfl (grT_pre _ _)
  | cons t R2 =>
    obtain ⟨us, rfl⟩ := G1.first rfl
    by_cases hle : t.1 ≤ now
    · have hlt : ¬ (now < t.1) := by omega
      have hC := cancel_c (v := grT v K.length) (key := t.2) H1 (by omega)
      have hG2 := cancel_good G1 t.2
      have hr : refCancel (t :: R2) t.2 = R2 := by
        have hk := G1.keys
        simp only [List.map_cons, List.nodup_cons] at hk
        unfold refCancel
        rw [List.filter_cons, if_neg (by simp)]
        rw [List.filter_eq_self]
        intro u hu
        have : u.2 ≠ t.2 := fun e => hk.1 (e ▸ List.mem_map_of_mem hu)
        simpa using this
      have hK : K.length + 1 ≤ 1000000 := by simp at hlen; omega
      have ha := fun r s' => app_ints (v := v) (c := K.length) (l := K) (a := t.2) (r := r) (s := s') hK (fun h => List.length_eq_zero_iff.1 h)
      have hNN := cancelN_le (t :: us) t.2
      have hmono := dg_mono (a := (t :: us).length) (b := R.length) (by rw [G1.len]; omega)
      rw [hr] at hG2
      simp [firstV, hlt, h0, h1]
      refine aCalls_mono hC ?_
      rintro _ s2 _ ⟨rfl, H2, hS2, rfl⟩
      simp [h5, ha]
      have ht : early now t = true := by simpa [early] using hle
      refine hid ⟨R2.length, by rw [← hd]; simp, R2, K ++ [t.2], cancelL (t :: us) t.2, N + cancelN (t :: us) t.2, rfl, hG2, by rw [e1, List.dropWhile_cons, if_pos ht], by rw [← e2, List.takeWhile_cons, if_pos ht]; simp [ks], by simpa [Int.add_assoc] using H2, ?_, by simp at hlen ⊢; omega, hS.trans hS2, by simp [upd_apply, h0], by simp [upd_apply, h1], by simp [upd_apply], by simp⟩
      rw [List.length_append, List.length_singleton, Nat.add_mul]; omega
    · have hlt : now < t.1 := by omega
      have ht : ¬ early now t = true := by simpa [early] using hle
      simp [firstV, hlt, h5, h1, hres]
      exact fin _ (by rw [List.takeWhile_cons, if_neg ht]) (by rw [List.dropWhile_cons, if_neg ht]) (grT_pre _ _)
end
end Go.Hb
end

section
namespace Go.Hb
open Go Go.Proofs Go.RowKit
attribute [-simp] aC aL aOper aThen aInBlock aIf aPlan aAppend

/-- What is handed over may be known less exactly. -/
theorem aCalls_argw {P : Program} {f : FuncId} {args args' : List LV} {s : List AObj} {v : List Nat} {R : LV → List AObj → List Nat → Prop} (hw : Weaks args args') (h : aCalls P f args' s v R) : aCalls P f args s v R :=
  ⟨h.1, fun C vs h1 h2 h3 => h.2 C vs h1 h2 (Weaks.rel hw h3)⟩

/-! ### a row that grows, by any number -/
def Gr (sz : Nat) (v v' : List Nat) (n : Nat) (cs : List LV) (x : LV) : Prop := (n = 0 ∧ cs = [] ∧ v' = v ∧ (x = .nils ∨ x = .imm sz 0 [] .full)) ∨ ∃ e, x = .imm sz n cs (.tip v.length e) ∧ v' = v ++ [e]
theorem Gr.nil (sz : Nat) (v : List Nat) : Gr sz v v 0 [] .nils := .inl ⟨rfl, rfl, rfl, .inl rfl⟩
theorem Gr.pre {sz : Nat} {v v' : List Nat} {n : Nat} {cs : List LV} {x : LV} (h : Gr sz v v' n cs x) : v <+: v' := by
  rcases h with ⟨_, _, rfl, _⟩ | ⟨e, _, rfl⟩
  · exact List.prefix_refl _
  · exact List.prefix_append _ _
theorem Gr.weak {sz : Nat} {v v' : List Nat} {n : Nat} {cs : List LV} {x : LV} (h : Gr sz v v' n cs x) : Weak x (.imm sz n cs .no) := by
  rcases h with ⟨rfl, rfl, _, rfl | rfl⟩ | ⟨e, rfl, _⟩
  · exact Weak.nils _ _ (.inl rfl)
  · exact Weak.imm _ _ _ _
  · exact Weak.imm _ _ _ _
theorem Gr.app {P : Program} {t t2 e : TypeId} {size by_ : Nat} {z : LV} (hu : P.underlying t = some (.slice e)) (hsz : szT P e = some size) (hby : bytesT P e = some by_) (hz : zeroT P e = some z)
    (h1 : notInt P t2 = true) (h2 : z.cellsOk = true) (h3 : z.cells.length = size) {v v' : List Nat} {n m : Nat} {cs ds : List LV} {x : LV} (h : Gr size v v' n cs x) (h0 : m = 0 → ds = [])
    (b1 : n + m ≤ maxLen) (b2 : (n + m) * by_ ≤ 140737488355328) :
    ∃ x' v'', Gr size v v'' (n + m) (cs ++ ds) x' ∧ ∀ y s, aCells size y s = some (ds, m) → aAppend P t t2 x y s v' = some (x', v'') := by
  have key : ∀ {r r' : Right} {v'' : List Nat}, aHead size x = some (cs, n, r) → grow m r v' = some (r', v'') → ∀ y s, aCells size y s = some (ds, m) → aAppend P t t2 x y s v' = some (.imm size (n + m) (cs ++ ds) r', v'') := fun {r r' v''} hh hg y s hy => by
    unfold aAppend
    simp only [hu, hsz, hby, hz]
    rw [if_pos ⟨h1, h2, h3⟩, hy, hh]
    simp only
    rw [if_pos ⟨b1, b2⟩, hg]
    rfl
  rcases h with ⟨rfl, rfl, rfl, hx⟩ | ⟨k, rfl, rfl⟩
  · have hh : aHead size x = some ([], 0, .full) := by rcases hx with rfl | rfl <;> simp [aHead]
    by_cases hm : m = 0
    · refine ⟨_, v', .inl ⟨by omega, by rw [h0 hm]; rfl, rfl, .inr ?_⟩, key (r' := .full) hh (by simp [grow, hm])⟩
      rw [h0 hm, hm]; rfl
    · exact ⟨_, _, .inr ⟨0, rfl, rfl⟩, key hh (by simp [grow, hm])⟩
  · have hh : aHead size (.imm size n cs (.tip v.length k)) = some (cs, n, .tip v.length k) := by simp [aHead]
    by_cases hm : m = 0
    · exact ⟨_, _, .inr ⟨k, rfl, rfl⟩, key hh (by simp [grow, hm])⟩
    · exact ⟨_, _, .inr ⟨k + 1, rfl, rfl⟩, key hh (by simp [grow, hm])⟩

/-! ### the document's row of timers -/
def sw (t : Tm) : Tm := (t.2, t.1)
def rcs (R : List Tm) : List LV := flat (R.map sw)
def rf (R : List Tm) : LV := .imm 2 R.length (rcs R) .no
theorem rcs_len (R : List Tm) : (rcs R).length = R.length * 2 := by unfold rcs; rw [flat_len]; simp
theorem rcs_get0 {R : List Tm} {i : Nat} (h : i < R.length) : (rcs R)[i * 2]? = some (.int .i64 R[i].2) := by
  have := flat_get0 (R.map sw) i (by simpa using h) []
  simpa [rcs, sw] using this
theorem rcs_get1 {R : List Tm} {i : Nat} (h : i < R.length) : (rcs R)[i * 2 + 1]? = some (.int .i64 R[i].1) := by
  have := flat_get1 (R.map sw) i (by simpa using h) []
  simpa [rcs, sw] using this
theorem rcs_two {R : List Tm} {i : Nat} (h : i < R.length) : ((rcs R).drop (i * 2)).take 2 = [.int .i64 R[i].2, .int .i64 R[i].1] := by
  have := flat_drop (R.map sw) i (by simpa using h) []
  simp only [List.append_nil] at this
  unfold rcs; rw [this]; simp [tc, sw]
theorem rcs_app (A B : List Tm) : rcs (A ++ B) = rcs A ++ rcs B := by unfold rcs; rw [List.map_append, flat_app]
theorem rcs_take (R : List Tm) (k : Nat) (h : k ≤ R.length) : (rcs R).take (k * 2) = rcs (R.take k) := by
  conv => lhs; rw [← List.take_append_drop k R, rcs_app]
  have : (rcs (R.take k)).length = k * 2 := by rw [rcs_len, List.length_take]; omega
  rw [← this, List.take_left]
theorem rcs_drop (R : List Tm) (k : Nat) (h : k ≤ R.length) : (rcs R).drop (k * 2) = rcs (R.drop k) := by
  conv => lhs; rw [← List.take_append_drop k R, rcs_app]
  have : (rcs (R.take k)).length = k * 2 := by rw [rcs_len, List.length_take]; omega
  rw [← this, List.drop_left]
theorem app_tms {v v' : List Nat} {A B : List Tm} {x : LV} (h : Gr 2 v v' A.length (rcs A) x) (hl : A.length + B.length ≤ 1000000) :
    ∃ x' v'', Gr 2 v v'' (A ++ B).length (rcs (A ++ B)) x' ∧ ∀ r s, aAppend Try.prog 25 25 x (.imm 2 B.length (rcs B) r) s v' = some (x', v'') := by
  obtain ⟨x', v'', h1, h2⟩ := Gr.app (P := Try.prog) (t := 25) (t2 := 25) (e := 51) (m := B.length) (size := 2) (by_ := 16) (z := .agg [.int .i64 0, .int .i64 0]) (ds := rcs B) (by simp) (by simp) (by simp) (by simp) (by simp) (by simp) (by simp) h (fun e => by rw [List.length_eq_zero_iff.1 e]; rfl) (by unfold maxLen; omega) (by omega)
  exact ⟨x', v'', by rw [List.length_append, rcs_app]; exact h1, fun r s => h2 _ s (by simp)⟩

section
variable {s : List AObj} {v : List Nat} {R : List Tm}

def atR (R : List Tm) (key : Int) : LV := atV R key
theorem wrap_succ {k n : Nat} (h : k < n) (hn : n ≤ 1000000) : IntKind.i64.wrap ((k : Int) + 1) = ((k + 1 : Nat) : Int) := by
  rw [IntWalk.i64_in _ ⟨by omega, by omega⟩]; omega

set_option maxRecDepth 10000 in
set_option maxHeartbeats 4000000 in
theorem refAt_c {key : Int} (hn : R.length ≤ 1000000) : aCalls Try.prog 13 [rf R, .int .i64 key] s v fun y s' v' => y = atV R key ∧ s = s' ∧ v = v' := by
  refine aCalls_of Try.func13 rfl (by decide) (by simp [Try.ntmps13]) false ?_
  have hres : Try.f13.results = #[.tmp 4, .tmp 5] := rfl
  simp [Try.ntmps13, rf]
  refine aW_forC false R.length (fun k st' => (∀ j, j < k → (tg R j).2 ≠ key) ∧ st'.t 0 = .imm 2 R.length (rcs R) .no ∧ st'.t 1 = .int .i64 key ∧ st'.t 6 = .int .i64 k ∧ s = st'.s ∧ v = st'.v) ?_ ?_
  · exact ⟨0, Nat.zero_le _, fun j h => absurd h (Nat.not_lt_zero _), by simp [upd_apply], by simp [upd_apply], by simp [upd_apply], rfl, rfl⟩
  rintro k t1 s1 v1 hk ⟨hj, h0, h1, h6, rfl, rfl⟩
  simp only at h0 h1 h6
  by_cases hlt : k < R.length
  · have hlt' : (k : Int) < (R.length : Int) := by omega
    have hw := wrap_succ hlt hn
    have g0 := rcs_get0 hlt
    have g1 := rcs_get1 hlt
    have hl := rcs_len R
    have b1 : k * 2 < R.length * 2 := by omega
    by_cases he : R[k].2 = key
    · have hf : find R key = some k := by
        unfold find
        rw [List.findIdx?_eq_some_iff_getElem]
        exact ⟨hlt, by simpa using he, fun j hjk => by have := hj j hjk; rw [tg_eq (by omega)] at this; simpa using this⟩
      simp [h0, h1, h6, hlt, g0, g1, he, hres, atV, hf, tg_eq hlt]
    · simp [h0, h1, h6, hlt, g0, he, hw]
      refine hid ⟨hlt, fun j hjk => ?_, by simp [upd_apply, h0], by simp [upd_apply, h1], by simp [upd_apply], rfl, rfl⟩
      by_cases e : j = k
      · subst e; rw [tg_eq hlt]; exact he
      · exact hj j (by omega)
  · have hf : find R key = none := by
      unfold find
      rw [List.findIdx?_eq_none_iff]
      intro t ht
      obtain ⟨j, hjl, rfl⟩ := List.getElem_of_mem ht
      have := hj j (by omega)
      rw [tg_eq hjl] at this
      simpa using this
    simp [h0, h1, h6, hlt, hres, atV, hf]
end
end Go.Hb
end

section
namespace Go.Hb
open Go Go.Proofs Go.RowKit
attribute [-simp] aC aL aOper aThen aInBlock aIf aPlan aAppend

theorem app_one {v v' : List Nat} {A : List Tm} {x : LV} (t : Tm) (h : Gr 2 v v' A.length (rcs A) x) (hl : A.length + 1 ≤ 1000000) :
    ∃ x' v'', Gr 2 v v'' (A ++ [t]).length (rcs (A ++ [t])) x' ∧ ∀ r s, aAppend Try.prog 25 25 x (.imm 2 1 [.int .i64 t.2, .int .i64 t.1] r) s v' = some (x', v'') := by
  obtain ⟨x', v'', h1, h2⟩ := app_tms (B := [t]) h (by simpa using hl)
  exact ⟨x', v'', h1, h2⟩

theorem rcs_at0 {R : List Tm} {i : Nat} (h : i < R.length) (h' : i * 2 < (rcs R).length) : (rcs R)[i * 2] = .int .i64 R[i].2 := by
  have := rcs_get0 h; rw [List.getElem?_eq_getElem h'] at this; exact Option.some.inj this
theorem rcs_at1 {R : List Tm} {i : Nat} (h : i < R.length) (h' : i * 2 + 1 < (rcs R).length) : (rcs R)[i * 2 + 1] = .int .i64 R[i].1 := by
  have := rcs_get1 h; rw [List.getElem?_eq_getElem h'] at this; exact Option.some.inj this
theorem aRows_end {P : Program} {f : FuncId} {args : List LV} {R : List Tm} {b : LV} {s : List AObj} {v : List Nat} (h : aCalls P f args s v fun y s' v' => ∃ x, y = .tup [x, b] ∧ Gr 2 v v' R.length (rcs R) x ∧ s = s') :
    aCalls P f args s v fun y s' v' => (.tup [rf R, b] : LV) = y ∧ s = s' ∧ v <+: v' :=
  aCalls_weak (aCalls_mono h fun y s' v' ⟨x, h1, h2, h3⟩ => ⟨_, s', by rw [h1]; exact Weak.tup ⟨h2.weak, Weak.refl _, trivial⟩, WeakS.refl _, rfl, h3, h2.pre⟩)

section
variable {s : List AObj} {v : List Nat} {R : List Tm}

def CancelPost (R : List Tm) (key : Int) (s : List AObj) (v : List Nat) (y : LV) (s' : List AObj) (v' : List Nat) : Prop := ∃ x, y = .tup [x, .bool (decide ((refCancel R key).length < R.length))] ∧ Gr 2 v v' (refCancel R key).length (rcs (refCancel R key)) x ∧ s = s'

set_option maxRecDepth 10000 in
set_option maxHeartbeats 4000000 in
theorem refCancel_p {key : Int} (hn : R.length ≤ 900000) : PureC Try.prog 18 [rf R, .int .i64 key] (.tup [rf (refCancel R key), .bool (decide ((refCancel R key).length < R.length))]) := by
  intro s v
  refine aRows_end (aCalls_mono (R := CancelPost R key s v) ?_ fun _ _ _ h => h)
  refine aCalls_of Try.func18 rfl (by decide) (by simp [Try.ntmps18]) false ?_
  have hres : Try.f18.results = #[.tmp 4, .tmp 5] := rfl
  simp [Try.ntmps18, rf]
  refine aW_forC false R.length (fun k st' => ∃ x, Gr 2 v st'.v (refCancel (R.take k) key).length (rcs (refCancel (R.take k) key)) x ∧ st'.t 6 = x ∧ st'.t 0 = .imm 2 R.length (rcs R) .no ∧ st'.t 1 = .int .i64 key ∧ st'.t 7 = .int .i64 k ∧ s = st'.s) ?_ ?_
  · exact ⟨0, Nat.zero_le _, .nils, Gr.nil _ _, by simp [upd_apply], by simp [upd_apply], by simp [upd_apply], by simp [upd_apply], rfl⟩
  rintro k t1 s1 v1 hk ⟨x, hx, h6, h0, h1, h7, rfl⟩
  simp only at h0 h1 h6 h7 hx
  have hcl : (refCancel (R.take k) key).length ≤ k := by
    unfold refCancel
    refine Nat.le_trans (List.length_filter_le _ _) ?_
    rw [List.length_take]; omega
  by_cases hlt : k < R.length
  · have hw := wrap_succ hlt (Nat.le_trans hn (by omega))
    have g0 := rcs_get0 hlt
    have g2 := rcs_two hlt
    have hl := rcs_len R
    have a0 := rcs_at0 hlt
    have b1 : k * 2 + 2 ≤ R.length * 2 := by omega
    have b2 : 2 ≤ R.length * 2 - k * 2 := by omega
    have e : R.take (k + 1) = R.take k ++ [R[k]] := by rw [List.take_add_one, List.getElem?_eq_getElem hlt]; rfl
    by_cases he : R[k].2 = key
    · simp [h0, h1, h7, hlt, g0, he, hw]
      refine hid ⟨hlt, x, ?_, by simp [upd_apply, h6], by simp [upd_apply, h0], by simp [upd_apply, h1], by simp [upd_apply], rfl⟩
      have : refCancel (R.take (k + 1)) key = refCancel (R.take k) key := by
        rw [e]; unfold refCancel; rw [List.filter_append]; simp [he]
      rw [this]; exact hx
    · obtain ⟨x', v'', hx', ha⟩ := app_one R[k] hx (by omega)
      simp [h0, h1, h6, h7, hlt, g0, he, hw, g2, hl, b1, b2, ha, a0]
      refine hid ⟨hlt, x', ?_, by simp [upd_apply], by simp [upd_apply, h0], by simp [upd_apply, h1], by simp [upd_apply], rfl⟩
      have : refCancel (R.take (k + 1)) key = refCancel (R.take k) key ++ [R[k]] := by
        rw [e]; unfold refCancel; rw [List.filter_append]; simp [he]
      rw [this]; exact hx'
  · have hkk : k = R.length := by omega
    subst hkk
    rw [List.take_length] at hx
    have hwk := hx
    rcases hx with ⟨hz, hc, hv, rfl | rfl⟩ | ⟨e, rfl, hv⟩
    · simp [h0, h6, h7, hres]
      exact ⟨_, by rw [hz], hwk, rfl⟩
    · simp [h0, h6, h7, hres]
      exact ⟨_, by rw [hz], hwk, rfl⟩
    · simp [h0, h6, h7, hres]
      exact ⟨_, rfl, hwk, rfl⟩

theorem early_len (R : List Tm) (now : Int) : (R.takeWhile (early now)).length ≤ R.length := by
  have := congrArg List.length (List.takeWhile_append_dropWhile (p := early now) (l := R))
  rw [List.length_append] at this; omega

end
end Go.Hb
end

section
namespace Go.Hb
open Go Go.Proofs Go.RowKit
attribute [-simp] aC aL aOper aThen aInBlock aIf aPlan aAppend

theorem tw_at {p : Tm → Bool} : ∀ (R : List Tm) (k : Nat), k ≤ R.length → (∀ j, j < k → p (tg R j) = true) → (k = R.length ∨ p (tg R k) = false) → R.takeWhile p = R.take k ∧ R.dropWhile p = R.drop k
  | [], k, hk, _, _ => by simp at hk; subst hk; simp
  | t :: R, 0, _, _, h => by
    have : p t = false := by rcases h with h | h; simp at h; exact h
    simp [this]
  | t :: R, k + 1, hk, hj, h => by
    have h0 : p t = true := hj 0 (by omega)
    obtain ⟨h1, h2⟩ := tw_at R k (by simpa using hk) (fun j h => hj (j + 1) (by omega)) (by rcases h with h | h; left; simpa using h; right; exact h)
    simp [h0, h1, h2]

section
variable {s : List AObj} {v : List Nat} {R : List Tm}

theorem sl_drop {k : Nat} (h : k ≤ R.length) : List.take ((R.length - k) * 2) (List.drop (k * 2) (rcs R)) = rcs (R.drop k) := by
  rw [rcs_drop R k h, List.take_of_length_le]
  rw [rcs_len, List.length_drop]; omega

def RefDuePost (R : List Tm) (now : Int) (s : List AObj) (v : List Nat) (y : LV) (s' : List AObj) (v' : List Nat) : Prop := ∃ r k, k ≤ R.length ∧ R.takeWhile (early now) = R.take k ∧ R.dropWhile (early now) = R.drop k ∧ y = .tup [.imm 2 (R.length - k) (rcs (R.drop k)) r, grI v k (ks (R.take k))] ∧ s = s' ∧ v' = grT v k

set_option maxRecDepth 10000 in
set_option maxHeartbeats 4000000 in
theorem refDue_p {now : Int} (hn : R.length ≤ 900000) : PureC Try.prog 21 [rf R, .int .i64 now] (.tup [rf (R.dropWhile (early now)), encI (ks (R.takeWhile (early now)))]) := by
  intro s v
  refine aCalls_weak (aCalls_mono (R := RefDuePost R now s v) ?_ ?_)
  rotate_left
  · rintro y s' v' ⟨r, k, hk, e1, e2, rfl, rfl, rfl⟩
    refine ⟨_, s, Weak.tup (ys := [.imm 2 (R.length - k) (rcs (R.drop k)) .no, encI (ks (R.take k))]) ⟨Weak.imm _ _ _ _, grI_weak _ _ _ (fun h => by subst h; simp [ks]), trivial⟩, WeakS.refl _, ?_, rfl, grT_pre _ _⟩
    rw [e1, e2]; unfold rf; rw [List.length_drop]
  refine aCalls_of Try.func21 rfl (by decide) (by simp [Try.ntmps21]) false ?_
  have hres : Try.f21.results = #[.tmp 4, .tmp 5] := rfl
  simp [Try.ntmps21, rf]
  refine aW_forC false R.length (fun k st' => (∀ j, j < k → early now (tg R j) = true) ∧ st'.t 6 = grI v k (ks (R.take k)) ∧ st'.v = grT v k ∧ st'.t 0 = .imm 2 R.length (rcs R) .no ∧ st'.t 1 = .int .i64 now ∧ st'.t 7 = .int .i64 k ∧ s = st'.s) ?_ ?_
  · exact ⟨0, Nat.zero_le _, fun j h => absurd h (Nat.not_lt_zero _), by simp [upd_apply, grI, grV], rfl, by simp [upd_apply], by simp [upd_apply], by simp [upd_apply], rfl⟩
  rintro k t1 s1 v1 hk ⟨hj, h6, hv, h0, h1, h7, rfl⟩
  simp only at h0 h1 h6 h7 hv
  subst hv
  have sd := sl_drop hk
  have hkI : (k : Int) ≤ (R.length : Int) := by omega
  by_cases hlt : k < R.length
  · have hw := wrap_succ hlt (Nat.le_trans hn (by omega))
    have g0 := rcs_get0 hlt
    have g1 := rcs_get1 hlt
    have e : R.take (k + 1) = R.take k ++ [R[k]] := by rw [List.take_add_one, List.getElem?_eq_getElem hlt]; rfl
    have hkl : (ks (R.take k)).length = k := by rw [ks_len, List.length_take]; omega
    by_cases he : R[k].1 ≤ now
    · have ha := fun r s' => app_ints (v := v) (c := k) (l := ks (R.take k)) (a := R[k].2) (r := r) (s := s') (by omega) (fun h => by subst h; simp [ks])
      simp [h0, h1, h6, h7, hlt, g0, g1, he, hw, ha]
      refine hid ⟨hlt, fun j hjk => ?_, ?_, rfl, by simp [upd_apply, h0], by simp [upd_apply, h1], by simp [upd_apply], rfl⟩
      · by_cases ej : j = k
        · subst ej; rw [tg_eq hlt]; simpa [early] using he
        · exact hj j (by omega)
      · have ek : ks (R.take (k + 1)) = ks (R.take k) ++ [R[k].2] := by unfold ks; rw [e, List.map_append]; rfl
        rw [ek]; simp [upd_apply]
    · have hq := tw_at R k hk hj (.inr (by rw [tg_eq hlt]; simpa [early] using he))
      simp [h0, h1, h6, h7, hlt, g0, g1, he, hres, hk, sd]
      exact ⟨_, k, hk, hq.1, hq.2, rfl, rfl, rfl⟩
  · have hkk : k = R.length := by omega
    have hq := tw_at R k hk hj (.inl hkk)
    simp [h0, h1, h6, h7, hlt, hres, hk, sd]
    exact ⟨_, k, hk, hq.1, hq.2, rfl, rfl, rfl⟩

set_option maxRecDepth 10000 in
set_option maxHeartbeats 2000000 in
theorem sameInts_p {a b : List Int} (hb : a.length ≤ 1000000) : PureE Try.prog 14 [encI a, encI b] (.bool (decide (a = b))) := by
  refine .of fun s v => ?_
  refine aCalls_of Try.func14 rfl (by decide) (by simp [Try.ntmps14]) false ?_
  have hres : Try.f14.results = #[.tmp 4] := rfl
  by_cases hl : a.length = b.length
  · have hl' : (a.length : Int) = (b.length : Int) := by omega
    simp [Try.ntmps14, encI, hl]
    refine aW_forC false a.length (fun k st => (∀ j, j < k → a[j]? = b[j]?) ∧ st.t 5 = .int .i64 k ∧ st.t 0 = encI a ∧ st.t 1 = encI b ∧ s = st.s ∧ v = st.v) ?_ ?_
    · exact ⟨0, Nat.zero_le _, fun j h => absurd h (Nat.not_lt_zero _), by simp [upd_apply], by simp [upd_apply, encI, hl], by simp [upd_apply, encI], rfl, rfl⟩
    rintro k t1 s1 v1 hk ⟨hsm, h5, h0, h1, rfl, rfl⟩
    simp only at h5 h0 h1
    by_cases hlt : k < a.length
    · have hlt' : (k : Int) < (a.length : Int) := by omega
      have hltb : k < b.length := by omega
      have hw := wrap_succ hlt hb
      simp [h5, h0, encI, hlt]
      refine aW_draw' (.qs [0, 1, 2, 3, 4, 5, 6, 7, 8] .nil) mixed (by kernel_rfl) (by kernel_rfl) ?_
      by_cases he : a[k] = b[k]
      · simp [h5, h0, h1, encI, hlt, hltb, he, hw]
        refine hid ⟨hlt, fun j hj => ?_, by simp [upd_apply], by simp [upd_apply, h0, encI], by simp [upd_apply, h1, encI], rfl, rfl⟩
        by_cases e : j = k
        · subst e; rw [List.getElem?_eq_getElem hlt, List.getElem?_eq_getElem hltb, he]
        · exact hsm j (by omega)
      · have hne : a ≠ b := fun e => by subst e; exact he rfl
        simp [h5, h0, h1, encI, hlt, hltb, he, hres, hne]
        exact EndsE.same rfl (Weak.refl _)
    · have hab : a = b := by
        apply List.ext_getElem?
        intro j
        by_cases hj : j < k
        · exact hsm j hj
        · rw [List.getElem?_eq_none (by omega), List.getElem?_eq_none (by omega)]
      subst hab
      simp [h5, h0, encI, hlt, hres]
      exact EndsE.same rfl (Weak.refl _)
  · have hl' : ¬ (a.length : Int) = (b.length : Int) := by omega
    have hne : a ≠ b := fun e => hl (by rw [e])
    simp [Try.ntmps14, encI, hl', hres, hne]
    exact EndsE.same rfl (Weak.refl _)

theorem digits_p {n : Nat} (hn : n ≤ 1000000) : PureE Try.prog 23 [.int .i64 n] (.int .i64 (dg n : Nat)) := by
  refine .of fun s v => ?_
  refine aCalls_of Try.func23 rfl (by decide) (by simp [Try.ntmps23]) false ?_
  have hres : Try.f23.results = #[.tmp 2] := rfl
  simp [Try.ntmps23]
  refine aW_downC false (fun d st => ∃ k, k + dg d = dg n ∧ d ≤ n ∧ st.t 0 = .int .i64 d ∧ st.t 3 = .int .i64 k ∧ s = st.s ∧ v = st.v) ?_ ?_
  · exact ⟨n, 0, by omega, Nat.le_refl _, by simp [upd_apply], by simp [upd_apply], rfl, rfl⟩
  rintro d t1 s1 v1 ⟨k, hk, hd, h0, h3, rfl, rfl⟩
  simp only at h0 h3
  have hdn := dg_le n
  by_cases h : d = 0
  · subst h
    have : dg 0 = 0 := by rw [dg]; rfl
    simp [h0, h3, hres]
    rw [this] at hk
    rw [← hk]
    exact EndsE.same rfl (Weak.refl _)
  · have hp : (0 : Int) < (d : Int) := by omega
    have hp2 : 0 < d := by omega
    have e : dg d = dg (d / 2) + 1 := by rw [dg, if_neg h]
    obtain ⟨q, hqd⟩ : ∃ q, q = d / 2 := ⟨_, rfl⟩
    have hq : Int.tdiv (d : Int) 2 = (q : Int) := by rw [Int.tdiv_eq_ediv_of_nonneg (by omega)]; omega
    have hw1 : IntKind.i64.wrap ((k : Int) + 1) = ((k + 1 : Nat) : Int) := wrap_succ (n := 1000000) (by omega) (by omega)
    have hw2 : IntKind.i64.wrap (q : Int) = (q : Int) := IntWalk.i64_in _ ⟨by omega, by omega⟩
    rw [← hqd] at e
    simp [h0, h3, hp, hp2, hq, hw1, hw2]
    exact hid ⟨q, by omega, k + 1, by omega, by omega, by simp [upd_apply], by simp [upd_apply], rfl, rfl⟩
end
end Go.Hb
end

