/-
  A layer for reasoning about the program's calls, and contracts of its functions (C4). CONDITIONS: none; each theorem bears its own.
-/
import Derived.Test.YtgaaocndjaoihaaC3
set_option linter.unusedVariables false
set_option linter.unusedSimpArgs false
section
namespace Go.Hb
open Go Go.Proofs Go.RowKit
attribute [-simp] aC aL aOper aThen aInBlock aIf aPlan aAppend

/-- The first k rows are those of R without t. -/
structure Half (t : Int) (R : Rows) (k : Nat) (L : List LV) : Prop where
  len : L.length = R.length
  one : ∀ j, (hj : j < R.length) → j < k → ∃ x, L[j]? = some x ∧ Weak x (encI (del t R[j])) ∧ ∀ m, x.under m = true

theorem weaks_of : ∀ (L : List LV) (B : Rows), L.length = B.length → (∀ j, (hj : j < B.length) → ∃ x, L[j]? = some x ∧ Weak x (encI B[j]) ∧ ∀ m, x.under m = true) → RowsOk L B
  | [], [], _, _ => ⟨trivial, fun _ => rfl⟩
  | x :: L, b :: B, h, hk => by
    obtain ⟨y, h1, h2, h3⟩ := hk 0 (by simp)
    simp at h1; subst h1
    have ih := weaks_of L B (by simpa using h) fun j hj => by
      obtain ⟨z, h4, h5⟩ := hk (j + 1) (by simpa using hj)
      exact ⟨z, by simpa using h4, by simpa using h5⟩
    exact ⟨⟨h2, ih.w⟩, fun m => by simp [undersB, h3, ih.u m]⟩
  | [], _ :: _, h, _ => by simp at h
  | _ :: _, [], h, _ => by simp at h

theorem Half.all {t : Int} {R : Rows} {L : List LV} (h : Half t R R.length L) : RowsOk L (R.map (del t)) :=
  weaks_of L _ (by simpa using h.len) fun j hj => by
    have hj' : j < R.length := by simpa using hj
    obtain ⟨x, h1, h2, h3⟩ := h.one j hj' hj'
    exact ⟨x, h1, by simpa using h2, h3⟩

theorem Half.set {t : Int} {R : Rows} {k : Nat} {L : List LV} (h : Half t R k L) (hk : k < R.length) {x : LV} (hx : Weak x (encI (del t R[k]))) (hu : ∀ m, x.under m = true) : Half t R (k + 1) (L.set k x) where
  len := by simpa using h.len
  one j hj hjk := by
    by_cases e : j = k
    · subst e; exact ⟨x, List.getElem?_set_self (by rw [h.len]; exact hk), hx, hu⟩
    · obtain ⟨y, h1, h2⟩ := h.one j hj (by omega)
      exact ⟨y, by rw [List.getElem?_set_ne (Ne.symm e)]; exact h1, h2⟩

theorem plain_one (m : Nat) {x : LV} (h1 : ∀ id L, x.frz id L = x) (h2 : x.under m = true) : Plain m [x] := ⟨fun id L => by simp [h1], by simp [undersB, h2]⟩

theorem doc_mk {n : Nat} {B S R : Rows} {s : List AObj} {a b : AObj} {J : List AObj} {q r p : Nat} {LB LS LR : List LV} (h1 : q ≠ r) (h2 : q ≠ p) (h3 : r ≠ p)
    (gq : J[q]? = some (.cells LB)) (gr : J[r]? = some (.cells LS)) (gp : J[p]? = some (.cells LR)) (k1 : RowsOk LB B) (k2 : RowsOk LS S) (k3 : RowsOk LR R) (l1 : B.length = n) (l2 : S.length = n) (l3 : R.length = n) :
    Doc n B S R s (.agg (ocore (s.length + 2 + q) (s.length + 2 + r) (s.length + 2 + p) n)) (s ++ a :: b :: J) :=
  ⟨a :: b :: J, q + 1 + 1, r + 1 + 1, p + 1 + 1, LB, LS, LR, by congr 2 <;> omega, rfl, by omega, by omega, by omega, by simpa using gq, by simpa using gr, by simpa using gp, k1, k2, k3, l1, l2, l3⟩

def RefCancelPost (n : Nat) (t : Int) (B S R : Rows) (s : List AObj) (v : List Nat) (y : LV) (s' : List AObj) (v' : List Nat) : Prop :=
  ∃ x, y = .tup [x, .bool (R.any fun l => l.contains t)] ∧ Doc n B S (R.map (del t)) s x s' ∧ v <+: v'

theorem del_snoc (t : Int) (l : List Int) (i : Nat) (hi : i < l.length) : del t (l.take (i + 1)) = if l[i] = t then del t (l.take i) else del t (l.take i) ++ [l[i]] := by
  unfold del
  rw [List.take_add_one, List.getElem?_eq_getElem hi, List.filter_append]
  by_cases h : l[i] = t <;> simp [h, List.filter_cons]
theorem contains_snoc (t : Int) (l : List Int) (i : Nat) (hi : i < l.length) : (l.take (i + 1)).contains t = ((l.take i).contains t || decide (l[i] = t)) := by
  rw [List.take_add_one, List.getElem?_eq_getElem hi]
  rw [List.contains_append]; simp [eq_comm]

set_option maxRecDepth 10000 in
set_option maxHeartbeats 8000000 in
theorem refCancel_c {n : Nat} {t : Int} {B S R : Rows} {s : List AObj} {v : List Nat} (hn0 : n ≠ 0) (hn : n ≤ 1000000) (hB : B.length = n) (hS : S.length = n) (hR : R.length = n) (bB : ∀ x ∈ B, x.length ≤ 1000000) (bS : ∀ x ∈ S, x.length ≤ 1000000) (bR : ∀ x ∈ R, x.length ≤ 900000) :
    aCalls Try.prog 29 [.agg (dcore B S R), .int .i64 t] s v (RefCancelPost n t B S R s v) := by
  refine aCalls_of Try.func29 rfl (by decide) (by simp [Try.ntmps29]) false ?_
  have hres : Try.f29.results = #[.cell 4 28, .tmp 5] := rfl
  simp [Try.ntmps29, dcore]
  refine aCalls_mono (own_c (B := B) (S := S) (R := R) hn0 hn hB hS hR bB bS (fun x hx => Nat.le_trans (bR x hx) (by omega))) ?_
  rintro _ _ v1 ⟨J, q, r, p, rB, rS, rR, rfl, rfl, h1, h2, h3, gq, gr, gp, l1, l2, l3, hG, hv⟩
  simp [ocore]
  have lq := (List.getElem?_eq_some_iff.1 gq).1
  have lr := (List.getElem?_eq_some_iff.1 gr).1
  have lp := (List.getElem?_eq_some_iff.1 gp).1
  generalize hZ : AObj.cells [LV.int .i64 0, .nils, .nils, .nils, .nils, .nils, .nils, .nils, .nils, .nils] = Z
  refine aW_forC false n (fun k st => ∃ L, Half t R k L ∧ st.t 7 = .bool ((R.take k).any fun l => l.contains t) ∧ st.t 8 = .int .i64 k ∧ st.t 2 = .ptr s.length 0 ∧ st.t 4 = .ptr (s.length + 1) 0 ∧ st.t 6 = .ptr (s.length + (J.length + 1 + 1)) 0 ∧ st.t 1 = .int .i64 t ∧
    s ++ .cells (dcore B S R) :: Z :: (J.set p (.cells L) ++ [.cells (ocore (s.length + 2 + q) (s.length + 2 + r) (s.length + 2 + p) n)]) = st.s ∧ v <+: st.v) ?_ ?_
  · refine ⟨0, Nat.zero_le _, rowsR R rR, ⟨by rw [rowsR_length (by omega)], fun j _ h => absurd h (Nat.not_lt_zero _)⟩, by simp [upd_apply], by simp [upd_apply], by simp [upd_apply], by simp [upd_apply], by simp [upd_apply], by simp [upd_apply], ?_, by simpa using hv⟩
    simp [set_same gp, dcore, ocore, rows]
  rintro k t1 s1 v2 hk ⟨L, hL, h7, h8, h20, h4, h6, h10, rfl, hv2⟩
  simp only at h7 h8 h20 h4 h6 h10 hv2
  by_cases hlt : k < n
  · have hltR : k < R.length := by omega
    have hlt' : (k : Int) < (R.length : Int) := by omega
    have hw := wrap_succ hlt hn
    have hRk : R[k].length ≤ 900000 := bR _ (List.getElem_mem hltR)
    have hlL : k < L.length := by rw [hL.len]; omega
    have hj1 := get3 s (.cells (dcore B S R)) Z (J := J.set p (.cells L)) (m := J.length) (.cells (ocore (s.length + 2 + q) (s.length + 2 + r) (s.length + 2 + p) n)) (by simp)
    have hj2 := fun i => get2 s (.cells (dcore B S R)) Z (J.set p (.cells L) ++ [.cells (ocore (s.length + 2 + q) (s.length + 2 + r) (s.length + 2 + p) n)]) i
    have hj3 : (J.set p (.cells L) ++ [.cells (ocore (s.length + 2 + q) (s.length + 2 + r) (s.length + 2 + p) n)])[p]? = some (.cells L) := by
      rw [List.getElem?_append_left (by simpa using lp), List.getElem?_set_self lp]
    simp [h7, h8, h20, h4, h6, h10, dcore, rows, hltR]
    refine aW_forC false R[k].length (fun i st => ∃ c, (c = 0 → del t (R[k].take i) = []) ∧ st.t 9 = grI v2 c (del t (R[k].take i)) ∧ st.t 7 = .bool (((R.take k).any fun l => l.contains t) || (R[k].take i).contains t) ∧ st.t 10 = .int .i64 i ∧ st.t 8 = .int .i64 k ∧ st.t 2 = .ptr s.length 0 ∧ st.t 4 = .ptr (s.length + 1) 0 ∧ st.t 6 = .ptr (s.length + (J.length + 1 + 1)) 0 ∧ st.t 1 = .int .i64 t ∧
      s ++ .cells (dcore B S R) :: Z :: (J.set p (.cells L) ++ [.cells (ocore (s.length + 2 + q) (s.length + 2 + r) (s.length + 2 + p) n)]) = st.s ∧ grT v2 c = st.v) ?_ ?_
    · refine ⟨0, Nat.zero_le _, 0, by simp [del], by simp [upd_apply, grI, grV, del], by simp [upd_apply, h7], by simp [upd_apply], by simp [upd_apply, h8], by simp [upd_apply, h20], by simp [upd_apply, h4], by simp [upd_apply, h6], by simp [upd_apply, h10], rfl, rfl⟩
    rintro i t2 s2 v3 hi ⟨c, hc, h9, h7, h10', h8, h20, h4, h6, h10, rfl, rfl⟩
    simp only at h7 h8 h20 h4 h6 h10 h9 h10'
    by_cases hil : i < R[k].length
    · have hil' : (i : Int) < (R[k].length : Int) := by omega
      have hwi := wrap_succ hil (by omega)
      have hds := del_snoc t R[k] i hil
      have hcs := contains_snoc t R[k] i hil
      have hdl : (del t (R[k].take i)).length + 1 ≤ 1000000 := by
        have : (del t (R[k].take i)).length ≤ (R[k].take i).length := List.length_filter_le _ _
        simp at this; omega
      by_cases he : R[k][i] = t
      · simp [h9, h7, h10', h8, h20, h4, h6, h10, dcore, rows, hltR, encI, hil, he]
        refine hid ⟨hil, c, ?_, ?_, ?_, by simp [upd_apply, hwi], by simp [upd_apply, h8], by simp [upd_apply, h20], by simp [upd_apply, h4], by simp [upd_apply, h6], by simp [upd_apply, h10], by simp [dcore, rows, encI], rfl⟩
        · rw [hds, if_pos he]; exact hc
        · rw [hds, if_pos he]; simp [upd_apply, h9]
        · rw [hcs]; simp [upd_apply, he]
      · have happ := app_ints (v := v2) (a := R[k][i]) (r := .full) (s := s ++ .cells (dcore B S R) :: Z :: (J.set p (.cells L) ++ [.cells (ocore (s.length + 2 + q) (s.length + 2 + r) (s.length + 2 + p) n)])) hdl hc
        simp only [dcore, rows, encI] at happ
        simp [h9, h7, h10', h8, h20, h4, h6, h10, dcore, rows, hltR, encI, hil, he, happ]
        refine hid ⟨hil, c + 1, by simp, ?_, ?_, by simp [upd_apply, hwi], by simp [upd_apply, h8], by simp [upd_apply, h20], by simp [upd_apply, h4], by simp [upd_apply, h6], by simp [upd_apply, h10], by simp [dcore, rows, encI], rfl⟩
        · rw [hds, if_neg he]; simp [upd_apply]
        · rw [hcs]; simp [upd_apply, he, h7]
    · have hi' : i = R[k].length := by omega
      subst hi'
      simp only [List.take_length] at h9 h7 hc
      have hs3 := set2 s (.cells (dcore B S R)) Z (J.set p (.cells L) ++ [.cells (ocore (s.length + 2 + q) (s.length + 2 + r) (s.length + 2 + p) n)]) p (.cells (L.set k (grI v2 c (del t R[k]))))
      have hs4 : (J.set p (AObj.cells L) ++ [AObj.cells (ocore (s.length + 2 + q) (s.length + 2 + r) (s.length + 2 + p) n)]).set p (AObj.cells (L.set k (grI v2 c (del t R[k])))) = J.set p (AObj.cells (L.set k (grI v2 c (del t R[k])))) ++ [AObj.cells (ocore (s.length + 2 + q) (s.length + 2 + r) (s.length + 2 + p) n)] := by
        rw [List.set_append_left _ _ (by simpa using lp), List.set_set]
      rw [hs4] at hs3
      have hj2p := hj2 p
      rw [hj3] at hj2p
      simp only [dcore, rows, ocore] at hj1 hj2p hs3
      have hkn : (k : Int) < (n : Int) := by omega
      have hbn : k + 1 ≤ L.length := by omega
      have hcok : (grI v2 c (del t R[k])).cellsOk = true ∧ (grI v2 c (del t R[k])).cells = [grI v2 c (del t R[k])] := by cases c <;> simp [grI, grV]
      simp [-LV.cellsOk, -LV.cells, h9, h7, h10', h8, h20, h4, h6, h10, dcore, rows, hltR, encI, ocore, hj1, hj2p, hkn, hlt, hbn, hcok, hs3, hlL]
      refine hid ⟨hlt, L.set k (grI v2 c (del t R[k])), hL.set hltR (grI_weak _ _ _ hc) (fun m => grI_under _ _ _ _), by simp [upd_apply, h7, any_take_succ hltR], by simp [upd_apply, hw], by simp [upd_apply, h20], by simp [upd_apply, h4], by simp [upd_apply, h6], by simp [upd_apply, h10], rfl, hv2.trans (grT_pre _ _)⟩
  · have hk' : k = R.length := by omega
    have hkn : ¬ ((k : Int) < (R.length : Int)) := by omega
    have hj1 := get3 s (.cells (dcore B S R)) Z (J := J.set p (AObj.cells L)) (m := J.length) (AObj.cells (ocore (s.length + 2 + q) (s.length + 2 + r) (s.length + 2 + p) n)) (by simp)
    simp only [dcore, rows, ocore] at hj1
    subst hk'
    subst hZ
    simp [h7, h8, h20, h4, h6, h10, dcore, rows, ocore, hj1, hres, set_app]
    have d : Doc R.length B S (R.map (del t)) s _ _ := doc_mk (n := R.length) (a := .cells (dcore B S R)) (b := .cells (ocore (s.length + 2 + q) (s.length + 2 + r) (s.length + 2 + p) n)) (J := J.set p (AObj.cells L) ++ [AObj.cells (ocore (s.length + 2 + q) (s.length + 2 + r) (s.length + 2 + p) n)]) (q := q) (r := r) (p := p) (LB := rowsR B rB) (LS := rowsR S rS) (LR := L) h1 h2 h3
      (by rw [List.getElem?_append_left (by simpa using lq), List.getElem?_set_ne (Ne.symm h2)]; exact gq)
      (by rw [List.getElem?_append_left (by simpa using lr), List.getElem?_set_ne (Ne.symm h3)]; exact gr)
      (by rw [List.getElem?_append_left (by simpa using lp), List.getElem?_set_self lp]) (.of (by omega)) (.of (by omega)) hL.all (by omega) (by omega) (by simp)
    subst hR
    refine ⟨_, ?_, d, hv2⟩
    simp [ocore]
end Go.Hb
end

section
namespace Go.Hb
open Go Go.Proofs Go.RowKit
attribute [-simp] aC aL aOper aThen aInBlock aIf aPlan grow

theorem mapI_under (m : Nat) (B : Rows) : undersB m (B.map encI) = true := by
  induction B with
  | nil => rfl
  | cons b B ih => simp [undersB, ih, encI_under]

theorem mapC_under (m : Nat) (f : List Int → List Int) (B : Rows) : undersB m (B.map (encI ∘ f)) = true := by
  have := mapI_under m (B.map f)
  rwa [List.map_map] at this

/-- n rows each, none too long. -/
structure Sz (n M : Nat) (B S R : Rows) : Prop where
  n0 : n ≠ 0
  n1 : n ≤ 1000000
  b : B.length = n
  s : S.length = n
  r : R.length = n
  bb : ∀ x ∈ B, x.length ≤ M
  bs : ∀ x ∈ S, x.length ≤ M
  br : ∀ x ∈ R, x.length ≤ M
  m : M ≤ 900000

section
variable {n M ch : Nat} {B S R : Rows} {b σ ρ : List Int} {t x room : Int}

theorem refCancel_p (H : Sz n M B S R) : PureC Try.prog 29 [.agg (dcore B S R), .int .i64 t] (.tup [.agg (dcore B S (R.map (del t))), .bool (R.any fun l => l.contains t)]) := fun s v => by
  have hm := H.m
  exact doc_freeze H.n0 (plain_one _ (fun _ _ => rfl) rfl) (refCancel_c H.n0 H.n1 H.b H.s H.r (fun x hx => Nat.le_trans (H.bb x hx) (by omega)) (fun x hx => Nat.le_trans (H.bs x hx) (by omega)) (fun x hx => Nat.le_trans (H.br x hx) (by omega)))

set_option maxRecDepth 10000 in
set_option maxHeartbeats 4000000 in
theorem refSend_meet (H : Sz n M B S R) {f : Int} (hr : R[ch]? = some (f :: ρ)) :
    PureC Try.prog 30 [.agg (dcore B S R), .int .i64 ch, .int .i64 room, .int .i64 t, .int .i64 x] (.tup [.agg (dcore B S (R.map (del f))), .int .i64 f, .bool true]) := by
  refine .of fun s v => ?_
  refine aCalls_of Try.func30 rfl (by decide) (by simp [Try.ntmps30]) false ?_
  have hres : Try.f30.results = #[.cell 10 28, .tmp 11, .tmp 12] := rfl
  obtain ⟨h1, e1⟩ := List.getElem?_eq_some_iff.1 hr
  simp [Try.ntmps30, dcore, rows, h1, e1, encI]
  refine aCalls_mono (refCancel_p (t := f) H _ _) ?_
  rintro _ _ v1 ⟨rfl, rfl, hv⟩
  simp [dcore, rows, set_app, get_app, hres]
  exact Ends.at (by simp [LV.under, undersB, mapI_under, mapC_under]) (Weak.refl _) hv

/-- What stands behind 'own': the state's own rows. -/
theorem ownS_c (H : Sz n M B S R) {s : List AObj} {v : List Nat} : aCalls Try.prog 42 [.agg (dcore B S R)] s v (OwnPost n B S R s v) := by
  have hm := H.m
  exact own_c H.n0 H.n1 H.b H.s H.r (fun x hx => Nat.le_trans (H.bb x hx) (by omega)) (fun x hx => Nat.le_trans (H.bs x hx) (by omega)) (fun x hx => Nat.le_trans (H.br x hx) (by omega))

set_option maxRecDepth 10000 in
set_option maxHeartbeats 8000000 in
theorem refSend_lay (H : Sz n M B S R) (hr : R[ch]? = some []) (hb : B[ch]? = some b) (hroom : (b.length : Int) < room) :
    PureC Try.prog 30 [.agg (dcore B S R), .int .i64 ch, .int .i64 room, .int .i64 t, .int .i64 x] (.tup [.agg (dcore (B.set ch (b ++ [x])) S R), .int .i64 (-1), .bool true]) := by
  intro s v
  refine doc_freeze H.n0 ⟨fun _ _ => rfl, rfl⟩ ?_
  refine aCalls_of Try.func30 rfl (by decide) (by simp [Try.ntmps30]) false ?_
  have hres : Try.f30.results = #[.cell 10 28, .tmp 11, .tmp 12] := rfl
  obtain ⟨h1, e1⟩ := List.getElem?_eq_some_iff.1 hr
  have hm := H.m
  have hn : ch < n := by rw [← H.r]; exact h1
  have hn' : (ch : Int) < (n : Int) := by omega
  have hbl : b.length ≤ M := H.bb _ (List.mem_of_getElem? hb)
  simp [Try.ntmps30, dcore, rows, h1, e1, encI]
  refine aCalls_mono (ownS_c H) ?_
  rintro _ _ v1 ⟨J, q, r, p, rB, rS, rR, rfl, rfl, h12, h13, h23, gq, gr, gp, l1, l2, l3, hG, hv⟩
  have hB := H.b
  obtain ⟨rb, hrb⟩ : ∃ rb, rB[ch]? = some rb := ⟨rB[ch]'(by omega), by simp⟩
  obtain ⟨_, hcell⟩ := List.getElem?_eq_some_iff.1 (rowsR_get hb hrb)
  have hlen : (rowsR B rB).length = n := by rw [rowsR_length (by omega), hB]
  have hgrow : grow 1 rb v1 = some (bump v1 rb) := hG.grow (k := ch) (by rw [List.append_assoc, List.getElem?_append_left (by omega)]; exact hrb) (by omega)
  have b1 : b.length + 1 ≤ maxLen := by unfold maxLen; omega
  have b2 : (b.length + 1) * 8 ≤ 140737488355328 := by omega
  have lq := (List.getElem?_eq_some_iff.1 gq).1
  have hset := rowsR_set B rB ch (b ++ [x]) (bump v1 rb).1
  simp at hset
  simp [ocore, set_app, get_app, get2, set2, gq, hcell, hn, hn', hroom, hlen]
  refine aW_draw' (.qs [0, 1, 2, 3, 4, 5, 6, 7, 8, 9] (.w 10 [1] (.qs [11] (.w 12 [] .nil)))) mixed (by kernel_rfl) (by kernel_rfl) ?_
  simp [ocore, set_app, get_app, get2, set2, gq, hcell, hn, hn', hroom, hlen, hgrow, b1, b2, hset, hres, Nat.succ_le_of_lt hn]
  exact ⟨doc_mk (n := n) h12 h13 h23 (List.getElem?_set_self lq) (by rw [List.getElem?_set_ne h12]; exact gr) (by rw [List.getElem?_set_ne h13]; exact gp) (.of (by simp; omega)) (.of (by rw [l2, H.s])) (.of (by rw [l3, H.r])) (by simp [hB]) H.s H.r, bump_pre hG rfl hv (k := ch) (by rw [List.append_assoc, List.getElem?_append_left (by omega)]; exact hrb)⟩

set_option maxRecDepth 10000 in
set_option maxHeartbeats 8000000 in
theorem refSend_wait (H : Sz n M B S R) (hr : R[ch]? = some []) (hb : B[ch]? = some b) (hs : S[ch]? = some σ) (hroom : ¬ (b.length : Int) < room) :
    PureC Try.prog 30 [.agg (dcore B S R), .int .i64 ch, .int .i64 room, .int .i64 t, .int .i64 x] (.tup [.agg (dcore B (S.set ch (σ ++ [t, x])) R), .int .i64 (-1), .bool false]) := by
  intro s v
  refine doc_freeze H.n0 ⟨fun _ _ => rfl, rfl⟩ ?_
  refine aCalls_of Try.func30 rfl (by decide) (by simp [Try.ntmps30]) false ?_
  have hres : Try.f30.results = #[.cell 10 28, .tmp 11, .tmp 12] := rfl
  obtain ⟨h1, e1⟩ := List.getElem?_eq_some_iff.1 hr
  have hm := H.m
  have hn : ch < n := by rw [← H.r]; exact h1
  have hn' : (ch : Int) < (n : Int) := by omega
  have hbl : σ.length ≤ M := H.bs _ (List.mem_of_getElem? hs)
  simp [Try.ntmps30, dcore, rows, h1, e1, encI]
  refine aCalls_mono (ownS_c H) ?_
  rintro _ _ v1 ⟨J, q, r, p, rB, rS, rR, rfl, rfl, h12, h13, h23, gq, gr, gp, l1, l2, l3, hG, hv⟩
  have hB := H.b
  have hS := H.s
  obtain ⟨rb, hrb⟩ : ∃ rb, rB[ch]? = some rb := ⟨rB[ch]'(by omega), by simp⟩
  obtain ⟨rs, hrs⟩ : ∃ rs, rS[ch]? = some rs := ⟨rS[ch]'(by omega), by simp⟩
  obtain ⟨_, hcell⟩ := List.getElem?_eq_some_iff.1 (rowsR_get hb hrb)
  obtain ⟨_, hcellS⟩ := List.getElem?_eq_some_iff.1 (rowsR_get hs hrs)
  have hlen : (rowsR B rB).length = n := by rw [rowsR_length (by omega), hB]
  have hlenS : (rowsR S rS).length = n := by rw [rowsR_length (by omega), hS]
  have hk : (rB ++ rS ++ rR)[n + ch]? = some rs := by
    rw [List.append_assoc, List.getElem?_append_right (by omega), List.getElem?_append_left (by omega), show n + ch - rB.length = ch by omega]; exact hrs
  have hgrow : grow 2 rs v1 = some (bump v1 rs) := hG.grow hk (by omega)
  have b1 : σ.length + 2 ≤ maxLen := by unfold maxLen; omega
  have b2 : (σ.length + 2) * 8 ≤ 140737488355328 := by omega
  have lr := (List.getElem?_eq_some_iff.1 gr).1
  have hset := rowsR_set S rS ch (σ ++ [t, x]) (bump v1 rs).1
  simp at hset
  simp [ocore, set_app, get_app, get2, set2, gq, hcell, hn, hn', hroom, hlen]
  refine aW_draw' (.qs [0, 1, 2, 3, 4, 5, 6, 7, 8, 9, 10] (.w 11 [1] (.qs [12] (.w 13 [] .nil)))) mixed (by kernel_rfl) (by kernel_rfl) ?_
  simp [ocore, set_app, get_app, get2, set2, gr, hcellS, hn, hn', hroom, hlenS, hgrow, b1, b2, hset, hres, Nat.succ_le_of_lt hn, zeros]
  exact ⟨doc_mk (n := n) h12 h13 h23 (by rw [List.getElem?_set_ne (Ne.symm h12)]; exact gq) (List.getElem?_set_self lr) (by rw [List.getElem?_set_ne h23]; exact gp) (.of (by rw [l1, H.b])) (.of (by simp; omega)) (.of (by rw [l3, H.r])) H.b (by simp [hS]) H.r, bump_pre hG rfl hv hk⟩

set_option maxRecDepth 10000 in
set_option maxHeartbeats 8000000 in
theorem refRecv_wait (H : Sz n M B S R) (hr : R[ch]? = some ρ) (hb : B[ch]? = some []) (hs : S[ch]? = some []) :
    PureC Try.prog 31 [.agg (dcore B S R), .int .i64 ch, .int .i64 t] (.tup [.agg (dcore B S (R.set ch (ρ ++ [t]))), .int .i64 0, .int .i64 (-1), .bool false]) := by
  intro s v
  refine doc_freeze H.n0 ⟨fun _ _ => rfl, rfl⟩ ?_
  refine aCalls_of Try.func31 rfl (by decide) (by simp [Try.ntmps31]) false ?_
  have hres : Try.f31.results = #[.cell 6 28, .tmp 7, .tmp 8, .tmp 9] := rfl
  obtain ⟨h1, e1⟩ := List.getElem?_eq_some_iff.1 hr
  have hm := H.m
  have hn : ch < n := by rw [← H.r]; exact h1
  have hn' : (ch : Int) < (n : Int) := by omega
  have hbl : ρ.length ≤ M := H.br _ (List.mem_of_getElem? hr)
  simp [Try.ntmps31, dcore]
  refine aCalls_mono (ownS_c H) ?_
  rintro _ _ v1 ⟨J, q, r, p, rB, rS, rR, rfl, rfl, h12, h13, h23, gq, gr, gp, l1, l2, l3, hG, hv⟩
  have hB := H.b
  have hS := H.s
  have hR := H.r
  obtain ⟨rb, hrb⟩ : ∃ rb, rB[ch]? = some rb := ⟨rB[ch]'(by omega), by simp⟩
  obtain ⟨rs, hrs⟩ : ∃ rs, rS[ch]? = some rs := ⟨rS[ch]'(by omega), by simp⟩
  obtain ⟨rr, hrr⟩ : ∃ rr, rR[ch]? = some rr := ⟨rR[ch]'(by omega), by simp⟩
  obtain ⟨_, hcell⟩ := List.getElem?_eq_some_iff.1 (rowsR_get hb hrb)
  obtain ⟨_, hcellS⟩ := List.getElem?_eq_some_iff.1 (rowsR_get hs hrs)
  obtain ⟨_, hcellR⟩ := List.getElem?_eq_some_iff.1 (rowsR_get hr hrr)
  have hlen : (rowsR B rB).length = n := by rw [rowsR_length (by omega), hB]
  have hlenS : (rowsR S rS).length = n := by rw [rowsR_length (by omega), hS]
  have hlenR : (rowsR R rR).length = n := by rw [rowsR_length (by omega), hR]
  have hk : (rB ++ rS ++ rR)[n + n + ch]? = some rr := by
    rw [List.append_assoc, List.getElem?_append_right (by omega), List.getElem?_append_right (by omega), show n + n + ch - rB.length - rS.length = ch by omega]; exact hrr
  have hgrow : grow 1 rr v1 = some (bump v1 rr) := hG.grow hk (by omega)
  have b1 : ρ.length + 1 ≤ maxLen := by unfold maxLen; omega
  have b2 : (ρ.length + 1) * 8 ≤ 140737488355328 := by omega
  have lp := (List.getElem?_eq_some_iff.1 gp).1
  have hset := rowsR_set R rR ch (ρ ++ [t]) (bump v1 rr).1
  simp at hset
  simp [ocore, set_app, get_app, get2, set2, gq, gr, hcell, hcellS, hn, hn', hlen, hlenS]
  refine aW_draw' (.qs [0, 1, 2, 3, 4, 5, 6, 7, 8, 9] (.w 10 [1] (.qs [11] (.w 12 [] .nil)))) mixed (by kernel_rfl) (by kernel_rfl) ?_
  simp [ocore, set_app, get_app, get2, set2, gp, hcellR, hn, hn', hlenR, hgrow, b1, b2, hset, hres, Nat.succ_le_of_lt hn]
  exact ⟨doc_mk (n := n) h12 h13 h23 (by rw [List.getElem?_set_ne (Ne.symm h13)]; exact gq) (by rw [List.getElem?_set_ne (Ne.symm h23)]; exact gr) (List.getElem?_set_self lp) (.of (by rw [l1, H.b])) (.of (by rw [l2, H.s])) (.of (by simp; omega)) H.b H.s (by simp [hR]), bump_pre hG rfl hv hk⟩
end
end Go.Hb
end

section
namespace Go.Hb
open Go Go.Proofs Go.RowKit
attribute [-simp] aC aL aOper aThen aInBlock aIf aPlan grow

section
variable {n M ch : Nat} {B S R : Rows} {b σ ρ : List Int} {t x room : Int}

set_option maxRecDepth 10000 in
set_option maxHeartbeats 8000000 in
theorem refRecv_lay (H : Sz n M B S R) {y : Int} (hb : B[ch]? = some (y :: b)) (hs : S[ch]? = some []) :
    PureC Try.prog 31 [.agg (dcore B S R), .int .i64 ch, .int .i64 t] (.tup [.agg (dcore (B.set ch b) S R), .int .i64 y, .int .i64 (-1), .bool true]) := by
  intro s v
  refine doc_freeze H.n0 ⟨fun _ _ => rfl, rfl⟩ ?_
  refine aCalls_of Try.func31 rfl (by decide) (by simp [Try.ntmps31]) false ?_
  have hres : Try.f31.results = #[.cell 6 28, .tmp 7, .tmp 8, .tmp 9] := rfl
  obtain ⟨h1, e1⟩ := List.getElem?_eq_some_iff.1 hb
  have hm := H.m
  have hn : ch < n := by rw [← H.b]; exact h1
  have hn' : (ch : Int) < (n : Int) := by omega
  simp [Try.ntmps31, dcore]
  refine aCalls_mono (ownS_c H) ?_
  rintro _ _ v1 ⟨J, q, r, p, rB, rS, rR, rfl, rfl, h12, h13, h23, gq, gr, gp, l1, l2, l3, hG, hv⟩
  have hB := H.b
  have hS := H.s
  obtain ⟨rb, hrb⟩ : ∃ rb, rB[ch]? = some rb := ⟨rB[ch]'(by omega), by simp⟩
  obtain ⟨rs, hrs⟩ : ∃ rs, rS[ch]? = some rs := ⟨rS[ch]'(by omega), by simp⟩
  obtain ⟨_, hcell⟩ := List.getElem?_eq_some_iff.1 (rowsR_get hb hrb)
  obtain ⟨_, hcellS⟩ := List.getElem?_eq_some_iff.1 (rowsR_get hs hrs)
  have hlen : (rowsR B rB).length = n := by rw [rowsR_length (by omega), hB]
  have hlenS : (rowsR S rS).length = n := by rw [rowsR_length (by omega), hS]
  have lq := (List.getElem?_eq_some_iff.1 gq).1
  have hset := rowsR_set B rB ch b rb
  have h1l : (1 : Int) ≤ (b.length : Int) + 1 := by omega
  have htk : List.take b.length (b.map (LV.int .i64)) = b.map (LV.int .i64) := List.take_of_length_le (by simp)
  have hgq : ∀ o, (J.set q o)[q]? = some o := fun o => List.getElem?_set_self lq
  simp [ocore, set_app, get_app, get2, set2, gq, hcell, hn, hn', hlen]
  refine aW_draw' (.qs [0, 1, 2, 3, 4, 5, 6, 7, 8, 9] (.w 10 [] .nil)) mixed (by kernel_rfl) (by kernel_rfl) ?_
  simp [ocore, set_app, get_app, get2, set2, gq, gr, hcell, hcellS, hn, hn', hlen, hlenS, hset, hres, Nat.succ_le_of_lt hn, Ne.symm h12, h12, hgq, h1l, htk]
  exact ⟨doc_mk (n := n) h12 h13 h23 (hgq _) (by rw [List.getElem?_set_ne h12]; exact gr) (by rw [List.getElem?_set_ne h13]; exact gp) (.of (by simp; omega)) (.of (by rw [l2, H.s])) (.of (by rw [l3, H.r])) (by simp [hB]) H.s H.r, hv⟩

set_option maxRecDepth 10000 in
set_option maxHeartbeats 8000000 in
theorem refRecv_sent (H : Sz n M B S R) {a c : Int} (hb : B[ch]? = some []) (hs : S[ch]? = some (a :: c :: σ)) :
    PureC Try.prog 31 [.agg (dcore B S R), .int .i64 ch, .int .i64 t] (.tup [.agg (dcore B (S.set ch σ) R), .int .i64 c, .int .i64 a, .bool true]) := by
  intro s v
  refine doc_freeze H.n0 ⟨fun _ _ => rfl, rfl⟩ ?_
  refine aCalls_of Try.func31 rfl (by decide) (by simp [Try.ntmps31]) false ?_
  have hres : Try.f31.results = #[.cell 6 28, .tmp 7, .tmp 8, .tmp 9] := rfl
  obtain ⟨h1, e1⟩ := List.getElem?_eq_some_iff.1 hb
  have hm := H.m
  have hn : ch < n := by rw [← H.b]; exact h1
  have hn' : (ch : Int) < (n : Int) := by omega
  simp [Try.ntmps31, dcore]
  refine aCalls_mono (ownS_c H) ?_
  rintro _ _ v1 ⟨J, q, r, p, rB, rS, rR, rfl, rfl, h12, h13, h23, gq, gr, gp, l1, l2, l3, hG, hv⟩
  have hB := H.b
  have hS := H.s
  obtain ⟨rb, hrb⟩ : ∃ rb, rB[ch]? = some rb := ⟨rB[ch]'(by omega), by simp⟩
  obtain ⟨rs, hrs⟩ : ∃ rs, rS[ch]? = some rs := ⟨rS[ch]'(by omega), by simp⟩
  obtain ⟨_, hcell⟩ := List.getElem?_eq_some_iff.1 (rowsR_get hb hrb)
  obtain ⟨_, hcellS⟩ := List.getElem?_eq_some_iff.1 (rowsR_get hs hrs)
  have hlen : (rowsR B rB).length = n := by rw [rowsR_length (by omega), hB]
  have hlenS : (rowsR S rS).length = n := by rw [rowsR_length (by omega), hS]
  have lr := (List.getElem?_eq_some_iff.1 gr).1
  have hset := rowsR_set S rS ch σ rs
  have h0l : (0 : Int) < (σ.length : Int) + 1 + 1 := by omega
  have h1l : (1 : Int) < (σ.length : Int) + 1 + 1 := by omega
  have htn : ((σ.length : Int) + 1 + 1).toNat = σ.length + 1 + 1 := by omega
  have h2l : (2 : Int) ≤ (σ.length : Int) + 1 + 1 := by omega
  have htk : List.take σ.length (σ.map (LV.int .i64)) = σ.map (LV.int .i64) := List.take_of_length_le (by simp)
  have hgr : ∀ o, (J.set r o)[r]? = some o := fun o => List.getElem?_set_self lr
  simp [ocore, set_app, get_app, get2, set2, gq, gr, hcell, hcellS, hn, hn', hlen, hlenS, h0l, h1l]
  refine aW_draw' (.qs [0, 1, 2, 3, 4, 5, 6, 7, 8, 9] (.w 10 [] .nil)) mixed (by kernel_rfl) (by kernel_rfl) ?_
  simp [ocore, set_app, get_app, get2, set2, gr, hcellS, hn, hn', hlenS, hset, hres, Nat.succ_le_of_lt hn, hgr, h1l, h2l, htk, htn]
  exact ⟨doc_mk (n := n) h12 h13 h23 (by rw [List.getElem?_set_ne (Ne.symm h12)]; exact gq) (hgr _) (by rw [List.getElem?_set_ne h23]; exact gp) (.of (by rw [l1, H.b])) (.of (by simp; omega)) (.of (by rw [l3, H.r])) H.b (by simp [hS]) H.r, hv⟩

set_option maxRecDepth 10000 in
set_option maxHeartbeats 8000000 in
theorem refRecv_both (H : Sz n M B S R) {y a c : Int} (hb : B[ch]? = some (y :: b)) (hs : S[ch]? = some (a :: c :: σ)) :
    PureC Try.prog 31 [.agg (dcore B S R), .int .i64 ch, .int .i64 t] (.tup [.agg (dcore (B.set ch (b ++ [c])) (S.set ch σ) R), .int .i64 y, .int .i64 a, .bool true]) := by
  intro s v
  refine doc_freeze H.n0 ⟨fun _ _ => rfl, rfl⟩ ?_
  refine aCalls_of Try.func31 rfl (by decide) (by simp [Try.ntmps31]) false ?_
  have hres : Try.f31.results = #[.cell 6 28, .tmp 7, .tmp 8, .tmp 9] := rfl
  obtain ⟨h1, e1⟩ := List.getElem?_eq_some_iff.1 hb
  have hm := H.m
  have hn : ch < n := by rw [← H.b]; exact h1
  have hn' : (ch : Int) < (n : Int) := by omega
  have hbl := H.bb _ (List.mem_of_getElem? hb)
  simp at hbl
  simp [Try.ntmps31, dcore]
  refine aCalls_mono (ownS_c H) ?_
  rintro _ _ v1 ⟨J, q, r, p, rB, rS, rR, rfl, rfl, h12, h13, h23, gq, gr, gp, l1, l2, l3, hG, hv⟩
  have hB := H.b
  have hS := H.s
  obtain ⟨rb, hrb⟩ : ∃ rb, rB[ch]? = some rb := ⟨rB[ch]'(by omega), by simp⟩
  obtain ⟨rs, hrs⟩ : ∃ rs, rS[ch]? = some rs := ⟨rS[ch]'(by omega), by simp⟩
  obtain ⟨_, hcell⟩ := List.getElem?_eq_some_iff.1 (rowsR_get hb hrb)
  obtain ⟨_, hcellS⟩ := List.getElem?_eq_some_iff.1 (rowsR_get hs hrs)
  have hlen : (rowsR B rB).length = n := by rw [rowsR_length (by omega), hB]
  have hlenS : (rowsR S rS).length = n := by rw [rowsR_length (by omega), hS]
  have lq := (List.getElem?_eq_some_iff.1 gq).1
  have lr := (List.getElem?_eq_some_iff.1 gr).1
  have hk : (rB ++ rS ++ rR)[ch]? = some rb := by rw [List.append_assoc, List.getElem?_append_left (by omega)]; exact hrb
  have hgrow : grow 1 rb v1 = some (bump v1 rb) := hG.grow hk (by omega)
  have hsetS := rowsR_set S rS ch σ rs
  have hset1 := rowsR_set B rB ch b rb
  have hset2 := rowsR_set (B.set ch b) (rB.set ch rb) ch (b ++ [c]) (bump v1 rb).1
  obtain ⟨_, hcell2⟩ := List.getElem?_eq_some_iff.1 (rowsR_get (B := B.set ch b) (rs := rB.set ch rb) (k := ch) (b := b) (r := rb) (List.getElem?_set_self (by omega)) (List.getElem?_set_self (by omega)))
  have hlen2 : (rowsR (B.set ch b) (rB.set ch rb)).length = n := by rw [rowsR_length (by simp; omega)]; simp [hB]
  simp at hset2
  have h1l : (1 : Int) ≤ (b.length : Int) + 1 := by omega
  have h0l : (0 : Int) < (σ.length : Int) + 1 + 1 := by omega
  have h0b : (0 : Int) < (b.length : Int) + 1 := by omega
  have h1l' : (1 : Int) < (σ.length : Int) + 1 + 1 := by omega
  have htn : ((σ.length : Int) + 1 + 1).toNat = σ.length + 1 + 1 := by omega
  have h2l : (2 : Int) ≤ (σ.length : Int) + 1 + 1 := by omega
  have htk : List.take σ.length (σ.map (LV.int .i64)) = σ.map (LV.int .i64) := List.take_of_length_le (by simp)
  have htkb : List.take b.length (b.map (LV.int .i64)) = b.map (LV.int .i64) := List.take_of_length_le (by simp)
  have b1 : b.length + 1 ≤ maxLen := by unfold maxLen; omega
  have b2 : (b.length + 1) * 8 ≤ 140737488355328 := by omega
  have hgq : ∀ o, (J.set q o)[q]? = some o := fun o => List.getElem?_set_self lq
  have hgqr : ∀ o, (J.set q o)[r]? = some (.cells (rowsR S rS)) := fun o => by rw [List.getElem?_set_ne h12]; exact gr
  have hgrr : ∀ o o', ((J.set q o).set r o')[r]? = some o' := fun o o' => List.getElem?_set_self (by simpa using lr)
  simp [ocore, set_app, get_app, get2, set2, gq, hcell, hn, hn', hlen, h0b]
  refine aW_draw' (.qs [0, 1, 2, 3, 4, 5, 6, 7, 8, 9] (.w 10 [] .nil)) mixed (by kernel_rfl) (by kernel_rfl) ?_
  simp [ocore, set_app, get_app, get2, set2, gq, gr, hcell, hcellS, hn, hn', hlen, hlenS, hset1, hres, Nat.succ_le_of_lt hn, hgq, hgqr, h1l, htkb, h0l, h0b]
  refine aW_draw' (.qs [0, 1, 2, 3, 4, 5, 6, 7, 8, 9, 10, 11, 12, 13, 14, 15] (.w 16 [1] (.qs [17] (.w 18 [] .nil)))) mixed (by kernel_rfl) (by kernel_rfl) ?_
  simp [ocore, set_app, get_app, get2, set2, hgq, hgqr, hcell2, hcellS, hn, hn', hlen2, hlenS, hgrow, b1, b2, hset2, Nat.succ_le_of_lt hn, h0l, h1l']
  refine aW_draw' (.qs [0, 1, 2, 3, 4, 5, 6, 7, 8, 9] (.w 10 [] .nil)) mixed (by kernel_rfl) (by kernel_rfl) ?_
  simp [ocore, set_app, get_app, get2, set2, hgqr, hcellS, hn, hn', hlenS, hsetS, hres, Nat.succ_le_of_lt hn, h1l', h2l, htk, htn]
  exact ⟨doc_mk (n := n) h12 h13 h23 (by rw [List.getElem?_set_ne (Ne.symm h12)]; exact hgq _) (hgrr _ _) (by rw [List.getElem?_set_ne h23, List.getElem?_set_ne h13]; exact gp) (.of (by simp; omega)) (.of (by simp; omega)) (.of (by rw [l3, H.r])) (by simp [hB]) (by simp [hS]) H.r, bump_pre hG rfl hv hk⟩
end
end Go.Hb
end

section
namespace Go.Hb
open Go Go.Proofs Go.RowKit
attribute [-simp] aC aL aOper aThen aInBlock aIf aPlan grow

section
variable {n M ch : Nat} {B S R : Rows} {b σ ρ : List Int} {t x room : Int}

theorem refRecv_ready (H : Sz n M B S R) (hb : B[ch]? = some b) (hs : S[ch]? = some σ) (he : σ.length % 2 = 0) (h0 : 0 < b.length + σ.length) :
    PureC Try.prog 31 [.agg (dcore B S R), .int .i64 ch, .int .i64 t] (.tup [.agg (dcore (B.set ch (takeOut b σ).2.2.1) (S.set ch (takeOut b σ).2.2.2) R), .int .i64 (takeOut b σ).1, .int .i64 (takeOut b σ).2.1, .bool true]) := by
  cases b with
  | nil =>
    match σ, he, h0, hs with
    | a :: c :: σ, _, _, hs =>
      simp only [takeOut]
      rw [set_same hb]
      exact refRecv_sent H hb hs
    | [a], he, _, _ => simp at he
  | cons y b =>
    match σ, he, hs with
    | [], _, hs =>
      simp only [takeOut]
      rw [set_same hs]
      exact refRecv_lay H hb hs
    | a :: c :: σ, _, hs => exact refRecv_both H hb hs
    | [a], he, _ => simp at he

set_option maxRecDepth 10000 in
set_option maxHeartbeats 8000000 in
theorem refSelect_ready (H : Sz n M B S R) {cl : List Nat} {k : Nat} (hlen : cl.length ≤ 1000000) (hno : ∀ (j c : Nat), cl[j]? = some c → j < k → B[c]? = some [] ∧ S[c]? = some []) (hk : cl[k]? = some ch)
    (hb : B[ch]? = some b) (hs : S[ch]? = some σ) (he : σ.length % 2 = 0) (h0 : 0 < b.length + σ.length) :
    PureC Try.prog 32 [.agg (dcore B S R), encI (ints cl), .int .i64 t] (.tup [.agg (dcore (B.set ch (takeOut b σ).2.2.1) (S.set ch (takeOut b σ).2.2.2) R), .int .i64 k, .int .i64 (takeOut b σ).1, .int .i64 (takeOut b σ).2.1, .bool true]) := by
  have hrec : PureC Try.prog 31 _ _ := refRecv_ready (t := t) H hb hs he h0
  generalize B.set ch (takeOut b σ).2.2.1 = B2 at hrec ⊢
  generalize S.set ch (takeOut b σ).2.2.2 = S2 at hrec ⊢
  refine .of fun s v => ?_
  refine aCalls_of Try.func32 rfl (by decide) (by simp [Try.ntmps32]) false ?_
  have hres : Try.f32.results = #[.cell 6 28, .tmp 7, .tmp 8, .tmp 9, .tmp 10] := rfl
  obtain ⟨hkl, hke⟩ := List.getElem?_eq_some_iff.1 hk
  simp [Try.ntmps32]
  refine aW_forC false k (fun j st => st.t 11 = .int .i64 j ∧ st.t 1 = encI (ints cl) ∧ st.t 2 = .int .i64 t ∧ st.t 3 = .ptr s.length 0 ∧ st.t 6 = .ptr (s.length + 1) 0 ∧
      s ++ [.cells (dcore B S R), .cells [.int .i64 0, .nils, .nils, .nils, .nils, .nils, .nils, .nils, .nils, .nils]] = st.s ∧ v = st.v) ?_ ?_
  · exact ⟨0, Nat.zero_le _, by simp [upd_apply]⟩
  rintro j t1 s1 v1 hj ⟨h11, h1, h2, h3, h6, rfl, rfl⟩
  simp only at h11 h1 h2 h3 h6
  have hjl : j < cl.length := by omega
  have hjl' : (j : Int) < (cl.length : Int) := by omega
  have hil : j < (ints cl).length := by rw [ints_len]; exact hjl
  have hci : (ints cl)[j] = (cl[j] : Int) := by simp [ints]
  by_cases hjk : j < k
  · obtain ⟨nb, ns⟩ := hno j cl[j] (by simp [hjl]) hjk
    have hw := wrap_succ hjk (by omega)
    simp [h11, h1, h2, h3, h6, encI, ints_len, hjl]
    refine aW_draw' (.qs [0, 1, 2, 3, 4] (.w 5 [] (.qs [6] .nil))) mixed (by kernel_rfl) (by kernel_rfl) ?_
    simp [h11, h1, h2, h3, h6, encI, ints_len, hjl, hil, hci, dcore]
    refine aCalls_mono (refReady_c (B := B) (S := S) (R := R) nb ns _ _) ?_
    rintro _ _ _ ⟨rfl, rfl, rfl⟩
    simp [h11, h1, h2, h3, h6]
    exact hid ⟨hjk, by simp [upd_apply, hw], by simp [upd_apply, h1, encI], by simp [upd_apply, h2], by simp [upd_apply, h3], by simp [upd_apply, h6], rfl, rfl⟩
  · have hjk' : j = k := by omega
    subst hjk'
    have hdec : (decide (0 < b.length) || decide (0 < σ.length)) = true := by simp; omega
    simp [h11, h1, h2, h3, h6, encI, ints_len, hjl]
    refine aW_draw' (.qs [0, 1, 2, 3, 4] (.w 5 [] (.qs [6] .nil))) mixed (by kernel_rfl) (by kernel_rfl) ?_
    simp [h11, h1, h2, h3, h6, encI, ints_len, hjl, hil, hci, hke, dcore]
    refine aCalls_mono (refReady_c (B := B) (S := S) (R := R) hb hs _ _) ?_
    rintro _ _ _ ⟨rfl, rfl, rfl⟩
    simp [h11, h1, h2, h3, h6, -Bool.or_eq_true, hdec]
    refine aW_draw' (.qs [0, 1, 2, 3, 4, 5] (.or (.w 6 [] (.qs [7, 8, 9, 10, 11] (.w 12 [] (.w 13 [] (.qs [14, 15, 16] .nil))))) (.w 12 [4, 0] (.w 6 [] (.qs [7, 8, 9, 10, 11] (.w 13 [] (.qs [14, 15, 16] .nil))))))) mixed (by kernel_rfl) (by kernel_rfl) ?_
    simp [h11, h1, h2, h3, h6, encI, ints_len, hjl, hil, hci, hke, dcore]
    constructor
    all_goals
      refine aCalls_mono (hrec _ _) ?_
      rintro _ _ v1 ⟨rfl, rfl, hv⟩
      simp [h11, h1, h2, h3, h6, dcore, rows, set_app, get_app, hres]
      exact Ends.at (by simp [LV.under, undersB, mapI_under]) (Weak.refl _) hv

set_option maxRecDepth 10000 in
set_option maxHeartbeats 8000000 in
theorem refSelect_none (H : Sz n M B S R) {cl : List Nat} (hlen : cl.length ≤ 1000) (hno : ∀ c ∈ cl, B[c]? = some [] ∧ S[c]? = some []) :
    PureC Try.prog 32 [.agg (dcore B S R), encI (ints cl), .int .i64 t] (.tup [.agg (dcore B S (waits t cl R)), .int .i64 (-1), .int .i64 0, .int .i64 (-1), .bool false]) := by
  intro s v
  refine doc_freeze H.n0 ⟨fun _ _ => rfl, rfl⟩ ?_
  refine aCalls_of Try.func32 rfl (by decide) (by simp [Try.ntmps32]) false ?_
  have hres : Try.f32.results = #[.cell 6 28, .tmp 7, .tmp 8, .tmp 9, .tmp 10] := rfl
  simp [Try.ntmps32]
  refine aW_forC false cl.length (fun j st => st.t 11 = .int .i64 j ∧ st.t 1 = encI (ints cl) ∧ st.t 2 = .int .i64 t ∧ st.t 3 = .ptr s.length 0 ∧ st.t 6 = .ptr (s.length + 1) 0 ∧
      s ++ [.cells (dcore B S R), .cells [.int .i64 0, .nils, .nils, .nils, .nils, .nils, .nils, .nils, .nils, .nils]] = st.s ∧ v = st.v) ?_ ?_
  · exact ⟨0, Nat.zero_le _, by simp [upd_apply]⟩
  rintro j t1 s1 v1 hj ⟨h11, h1, h2, h3, h6, rfl, rfl⟩
  simp only at h11 h1 h2 h3 h6
  by_cases hjl : j < cl.length
  · have hjl' : (j : Int) < (cl.length : Int) := by omega
    have hil : j < (ints cl).length := by rw [ints_len]; exact hjl
    have hci : (ints cl)[j] = (cl[j] : Int) := by simp [ints]
    obtain ⟨nb, ns⟩ := hno cl[j] (List.getElem_mem hjl)
    have hw := wrap_succ hjl (by omega)
    simp [h11, h1, h2, h3, h6, encI, ints_len, hjl]
    refine aW_draw' (.qs [0, 1, 2, 3, 4] (.w 5 [] (.qs [6] .nil))) mixed (by kernel_rfl) (by kernel_rfl) ?_
    simp [h11, h1, h2, h3, h6, encI, ints_len, hjl, hil, hci, dcore]
    refine aCalls_mono (refReady_c (B := B) (S := S) (R := R) nb ns _ _) ?_
    rintro _ _ _ ⟨rfl, rfl, rfl⟩
    simp [h11, h1, h2, h3, h6]
    exact hid ⟨hjl, by simp [upd_apply, hw], by simp [upd_apply, h1, encI], by simp [upd_apply, h2], by simp [upd_apply, h3], by simp [upd_apply, h6], rfl, rfl⟩
  · simp [h11, h1, h2, h3, h6, encI, ints_len, hjl, dcore]
    refine aCalls_mono (ownS_c H) ?_
    rintro _ _ v1 ⟨J, q, r, p, rB, rS, rR, rfl, rfl, h12, h13, h23, gq, gr, gp, l1, l2, l3, hG, hv⟩
    have lp := (List.getElem?_eq_some_iff.1 gp).1
    have hm := H.m
    have hnm := H.n1
    simp [ocore, set_app, get_app, get2, set2, h11, h1, h2, h3, h6]
    refine aW_forC false cl.length (fun j st => ∃ rr, rr.length = n ∧ Good v.length st.v (rB ++ rS ++ rr) ∧ v <+: st.v ∧ st.t 17 = .int .i64 j ∧ st.t 1 = encI (ints cl) ∧ st.t 2 = .int .i64 t ∧ st.t 3 = .ptr s.length 0 ∧ st.t 6 = .ptr (s.length + 1) 0 ∧
      s ++ .cells (ocore (s.length + 2 + q) (s.length + 2 + r) (s.length + 2 + p) n) :: .cells [.int .i64 0, .nils, .nils, .nils, .nils, .nils, .nils, .nils, .nils, .nils] :: J.set p (.cells (rowsR (waits t (cl.take j) R) rr)) = st.s) ?_ ?_
    · exact ⟨0, Nat.zero_le _, rR, l3, hG, hv, by simp [upd_apply], by simp [upd_apply, h1], by simp [upd_apply, h2], by simp [upd_apply, h3], by simp [upd_apply, h6], by simp [waits, set_same gp, ocore]⟩
    clear h11 h1 h2 h3 h6
    rintro i t2 s2 v2 hi ⟨rr, hrl, hG2, hv2, h17, h1, h2, h3, h6, rfl⟩
    simp only at hG2 hv2 h17 h1 h2 h3 h6
    have hwl : (waits t (cl.take i) R).length = n := by rw [waits_length]; exact H.r
    have hlenR : (rowsR (waits t (cl.take i) R) rr).length = n := by rw [rowsR_length (by omega), hwl]
    have hgp : ∀ o, (J.set p o)[p]? = some o := fun o => List.getElem?_set_self lp
    by_cases hil : i < cl.length
    · have hil2 : i < (ints cl).length := by rw [ints_len]; exact hil
      have hci : (ints cl)[i] = (cl[i] : Int) := by simp [ints]
      obtain ⟨nb, ns⟩ := hno cl[i] (List.getElem_mem hil)
      have hcn : cl[i] < n := by have := get_lt nb; rw [H.b] at this; exact this
      have hcn' : (cl[i] : Int) < (n : Int) := by omega
      have hw := wrap_succ hil (by omega)
      obtain ⟨rc, hrc⟩ : ∃ rc, rr[cl[i]]? = some rc := ⟨rr[cl[i]]'(by omega), by simp⟩
      have hwx : (waits t (cl.take i) R)[cl[i]]? = some ((waits t (cl.take i) R)[cl[i]]'(by omega)) := by simp [hwl, hcn]
      generalize hww : (waits t (cl.take i) R)[cl[i]]'(by omega) = ww at hwx
      have hwb := waits_row t M (cl.take i) R H.br ww (List.mem_of_getElem? hwx)
      have hwb2 : ww.length ≤ M + 1000 := by simp at hwb; omega
      obtain ⟨_, hcell⟩ := List.getElem?_eq_some_iff.1 (rowsR_get hwx hrc)
      have hk : (rB ++ rS ++ rr)[n + n + cl[i]]? = some rc := by
        rw [List.append_assoc, List.getElem?_append_right (by omega), List.getElem?_append_right (by omega), show n + n + cl[i] - rB.length - rS.length = cl[i] by omega]; exact hrc
      have hgrow : grow 1 rc v2 = some (bump v2 rc) := hG2.grow hk (by omega)
      have b1 : ww.length + 1 ≤ maxLen := by unfold maxLen; omega
      have b2 : (ww.length + 1) * 8 ≤ 140737488355328 := by omega
      have hset := rowsR_set (waits t (cl.take i) R) rr cl[i] (ww ++ [t]) (bump v2 rc).1
      simp at hset
      have hmv : v.length ≤ v2.length := hv2.length_le
      simp [h17, h1, h2, h3, h6, encI, ints_len, hil]
      refine aW_draw' (.qs [0, 1, 2, 3, 4, 5, 6, 7, 8, 9, 10, 11, 12, 13, 14, 15] (.w 16 [5, 1] (.qs [17] (.w 18 [] .nil)))) mixed (by kernel_rfl) (by kernel_rfl) ?_
      simp [h17, h1, h2, h3, h6, encI, ints_len, hil, hil2, hci, ocore, set_app, get_app, get2, set2, hgp, hcn, hcn', hlenR, hcell, hgrow, b1, b2, hset, Nat.succ_le_of_lt hcn]
      have hG3 := hG2.bump hmv hk
      have hsplit : (rB ++ rS ++ rr).set (n + n + cl[i]) (bump v2 rc).1 = rB ++ rS ++ rr.set cl[i] (bump v2 rc).1 := by
        rw [List.append_assoc, List.set_append_right _ _ (by omega), List.set_append_right _ _ (by omega), show n + n + cl[i] - rB.length - rS.length = cl[i] by omega, ← List.append_assoc]
      rw [hsplit] at hG3
      refine hid ⟨hil, rr.set cl[i] (bump v2 rc).1, by simpa using hrl, hG3, bump_pre hG2 rfl hv2 hk, by simp [upd_apply, hw], by simp [upd_apply, h1, encI], by simp [upd_apply, h2], by simp [upd_apply, h3], by simp [upd_apply, h6], ?_⟩
      rw [waits_succ t hil]
      have : wait t (waits t (cl.take i) R) cl[i] = (waits t (cl.take i) R).set cl[i] (ww ++ [t]) := by
        unfold wait; congr 2; rw [List.getD_eq_getElem?_getD, hwx]; rfl
      rw [this]
    · have hil' : i = cl.length := by omega
      subst hil'
      simp only [List.take_length] at *
      simp [h17, h1, h2, h3, h6, encI, ints_len, ocore, set_app, get_app, hres]
      exact ⟨doc_mk (n := n) h12 h13 h23 (by rw [List.getElem?_set_ne (Ne.symm h13)]; exact gq) (by rw [List.getElem?_set_ne (Ne.symm h23)]; exact gr) (hgp _) (.of (by rw [l1, H.b])) (.of (by rw [l2, H.s])) (.of (by omega)) H.b H.s hwl, hv2⟩
end
end Go.Hb
end

