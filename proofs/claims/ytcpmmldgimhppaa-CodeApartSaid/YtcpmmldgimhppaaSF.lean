/-
  A layer for reasoning about the program's calls, and contracts of its functions (SF). CONDITIONS: none; each theorem bears its own.
-/
import Derived.Test.YtcpmmldgimhppaaS
import Derived.Test.YtcpmmldgimhppaaY
set_option linter.unusedVariables false
set_option linter.unusedSimpArgs false
namespace Go.Hb
open Go Go.Proofs Go.RowKit
set_option maxRecDepth 100000
set_option maxHeartbeats 800000
attribute [-simp] aC aL aOper aThen aInBlock aIf aPlan aAppend aLen aIndexAddr aSlice aCells aBounds lBr aq initT aev aAppendOwn aAppendNil aAppendNew aAppendRef LV.cells LV.cellsOk getElem?_pos getElem?_neg

def FunsS (b : Nat) (J : List AObj) (L : List Fn_) (r : List LV) : Prop := r.length = L.length * 2 ∧ ∀ i, i < L.length → ∃ x, r[i * 2 + 1]? = some x ∧ ShapeO 2 b J (nth L i).code.length x
theorem FunsO.shape {b : Nat} {J : List AObj} {L : List Fn_} {r : List LV} (h : FunsO b J L L.length r) : FunsS b J L r :=
  ⟨h.1, fun i hi => by obtain ⟨_, x, h2, h3, _⟩ := h.2 i hi; exact ⟨x, h2, (h3 hi).shape⟩⟩
theorem FunsS.put {b : Nat} {J : List AObj} {L : List Fn_} {r : List LV} (h : FunsS b J L r) {d : Nat} {cs cs' : List LV} (hd : J[d]? = some (.cells cs)) (hl : cs'.length = cs.length) : FunsS b (J.set d (.cells cs')) L r :=
  ⟨h.1, fun i hi => by obtain ⟨x, h2, h3⟩ := h.2 i hi; exact ⟨x, h2, h3.put hd hl⟩⟩
theorem FunsS.setLocals {b : Nat} {J : List AObj} {L : List Fn_} {r : List LV} (h : FunsS b J L r) (k : Nat) (y : LV) : FunsS b J L (r.set (k * 2) y) :=
  ⟨by simp [h.1], fun i hi => by obtain ⟨x, h2, h3⟩ := h.2 i hi; exact ⟨x, by rw [List.getElem?_set_ne (by omega)]; exact h2, h3⟩⟩
def ListsS (b : Nat) (J : List AObj) (L : List (List Int)) (r : List LV) : Prop := r.length = L.length ∧ ∀ i, i < L.length → ∃ x, r[i]? = some x ∧ ShapeO 1 b J (nth L i).length x
theorem ListsO.shape {b : Nat} {J : List AObj} {L : List (List Int)} {r : List LV} (h : ListsO b J L L.length r) : ListsS b J L r :=
  ⟨h.1, fun i hi => by obtain ⟨x, h2, h3, _⟩ := h.2 i hi; exact ⟨x, h2, (h3 hi).shape⟩⟩
theorem ListsS.put {b : Nat} {J : List AObj} {L : List (List Int)} {r : List LV} (h : ListsS b J L r) {d : Nat} {cs cs' : List LV} (hd : J[d]? = some (.cells cs)) (hl : cs'.length = cs.length) : ListsS b (J.set d (.cells cs')) L r :=
  ⟨h.1, fun i hi => by obtain ⟨x, h2, h3⟩ := h.2 i hi; exact ⟨x, h2, h3.put hd hl⟩⟩
set_option maxHeartbeats 8000000 in
theorem lawApart_p {p q : Prog} (h : OkProg p) (h' : OkProg q) : PureC Try.prog 5 [.agg p.lv, .agg q.lv] (.bool true) := by
  have hg := good_ok h
  have hg' := good_ok h'
  have hmay := good_may p
  have hmay' := good_may q
  obtain ⟨g, hge⟩ : ∃ g, good p = g := ⟨_, rfl⟩
  obtain ⟨g', hge'⟩ : ∃ g, good q = g := ⟨_, rfl⟩
  rw [hge] at hg hmay
  rw [hge'] at hg' hmay'
  clear hge hge' h h'
  obtain ⟨fs, mu, co, se, ch, cho, th⟩ := g
  obtain ⟨fs', mu', co', se', ch', cho', th'⟩ := g'
  have hokg := ok_of_may hmay
  have hbl := writeP_le hmay
  have hrw := (rwrite_f hmay).pure
  have hsm := same1_p (a := writeP ⟨fs, mu, co, se, ch, cho, th⟩) (b := writeP ⟨fs, mu, co, se, ch, cho, th⟩) (by omega)
  simp only [decide_true] at hsm
  obtain ⟨l0, l1, l2, l3, l4, l5, l6, l7⟩ := may_lens hmay
  have hcl := fun s v => cclone_c (s := s) (v := v) (mu := mu) (th := th) (co := co) (se := se) (ch := ch) (cho := cho) l0 (by omega) (fun k hk => by have := l7 k hk; omega) (by omega) (by omega) (by omega) (by omega) (fun k hk => by have := l6 k hk; omega)
  have hs1 := rsame_p (fs' := fs') (mu' := mu') (th' := th') (co' := co') (se' := se') (ch' := ch') (cho' := cho') hokg
  have hs2 := csame_p (fs' := fs') (mu' := mu') (th' := th') (co' := co') (se' := se') (ch' := ch') (cho' := cho') hokg
  have hchoP : ∀ k < cho.length, 0 < (nth cho k).length := fun k hk => by
    unfold mayP at hmay
    simp only [Bool.and_eq_true] at hmay
    have := List.all_eq_true.1 hmay.1.2 (nth cho k) (by rw [nth_eq hk]; exact List.getElem_mem hk)
    unfold mayCh at this
    simp only [Bool.and_eq_true, decide_eq_true_eq] at this
    omega
  generalize writeP ⟨fs, mu, co, se, ch, cho, th⟩ = bs at *
  simp only [Prog.lv] at hg hg' ⊢
  generalize decide ((⟨fs, mu, co, se, ch, cho, th⟩ : Prog) = ⟨fs', mu', co', se', ch', cho', th'⟩) = eq at *
  clear hokg hmay hmay'
  obtain ⟨pf, pm, pc, ps, ph, po, pt⟩ := p
  obtain ⟨qf, qm, qc, qs, qh, qo, qt⟩ := q
  simp only at hg hg' ⊢
  refine .of fun s v => ?_
  refine aCalls_go Try.func5 rfl (by decide) Try.ntmps5 (by simp) false ?_
  have hres : Try.f5.results = #[.tmp 4] := rfl
  repeat' (first | with_reducible refine br_t ?_ | with_reducible refine br_f ?_ | with_reducible refine br_dec (fun _ => ?_) (fun _ => ?_) | with_reducible refine g_dec (fun _ => ?_) (fun _ => ?_) | with_reducible refine g_ndec (fun _ => ?_) (fun _ => ?_) | with_reducible refine br_not (fun _ => ?_) (fun _ => ?_) | with_reducible refine br_split (fun _ => ?_) (fun _ => ?_) | with_reducible refine g_not (fun _ => ?_) (fun _ => ?_) | with_reducible refine g_split (fun _ => ?_) (fun _ => ?_) | with_reducible refine px_dec (fun _ => ?_) (fun _ => ?_) | with_reducible refine px_ndec (fun _ => ?_) (fun _ => ?_) | with_reducible refine px_split (fun _ => ?_) (fun _ => ?_) | (with_reducible refine aWh_draw (own := false) (id := 5) (.qs [0, 1, 3, 4] (.w 2 [4, 3] (.w 5 [] (.qs [6, 7, 8, 9, 10, 11, 12, 13, 14, 15] .nil)))) mixed ?_ ?_ ?_; kernel_rfl; kernel_rfl) | with_reducible refine callC hg (fun v1 hv1 => ?_) | with_reducible refine callC hg' (fun v2 hv2 => ?_) | with_reducible refine callC hrw (fun v3 hv3 => ?_) | with_reducible refine aCalls_mono (hcl _ _) ?_ | simp -implicitDefEqProofs (maxSteps := 2000000) (disch := first | assumption | omega) [*, ])
  rintro y _ _ ⟨rfl, a0, z0, r, J0, K, xC, xS, xH, xO, rfl, rfl, hF, hC, hS, hH, hK⟩
  simp only [List.length_append, List.length_cons, List.length_nil, Nat.reduceAdd, Nat.add_assoc] at hF hC hS hH hK
  have cC := hC.cells
  have cS := hS.cells
  have cH := hH.cells
  have cO : xO.cells = [xO] ∧ xO.cellsOk = true := by
    rcases hK with ⟨_, _, h⟩ | ⟨_, _, _, _, rfl, _⟩
    · exact NilRow.cells h
    · exact ⟨rfl, rfl⟩
  have hF := hF.shape
  have hH := hH.shape
  simp only [sz_int] at hH
  have e6 : (s ++ [AObj.cells [row pf, .int .i64 pm, row pc, row ps, row ph, row po, .int .i64 pt], AObj.cells [row qf, .int .i64 qm, row qc, row qs, row qh, row qo, .int .i64 qt], AObj.cells [row fs, .int .i64 mu, row co, row se, row ch, row cho, .int .i64 th], AObj.cells [row fs', .int .i64 mu', row co', row se', row ch', row cho', .int .i64 th']]).length + 2 = s.length + 6 := by simp
  rw [e6]
  clear e6
  repeat' (first | with_reducible refine br_t ?_ | with_reducible refine br_f ?_ | with_reducible refine br_dec (fun _ => ?_) (fun _ => ?_) | with_reducible refine g_dec (fun _ => ?_) (fun _ => ?_) | with_reducible refine g_ndec (fun _ => ?_) (fun _ => ?_) | with_reducible refine br_not (fun _ => ?_) (fun _ => ?_) | with_reducible refine br_split (fun _ => ?_) (fun _ => ?_) | with_reducible refine g_not (fun _ => ?_) (fun _ => ?_) | with_reducible refine g_split (fun _ => ?_) (fun _ => ?_) | with_reducible refine px_dec (fun _ => ?_) (fun _ => ?_) | with_reducible refine px_ndec (fun _ => ?_) (fun _ => ?_) | with_reducible refine px_split (fun _ => ?_) (fun _ => ?_) | (with_reducible refine aWh_draw (own := false) (id := 5) (.qs [0, 1, 3, 4] (.w 2 [4, 3] (.w 5 [] (.qs [6, 7, 8, 9, 10, 11, 12, 13, 14, 15] .nil)))) mixed ?_ ?_ ?_; kernel_rfl; kernel_rfl) | with_reducible refine callE hs2 ?_ | with_reducible refine callE hs1 ?_ | simp -implicitDefEqProofs (maxSteps := 2000000) (disch := first | assumption | omega) [*, ])
  refine aW_for (β := List LV × List AObj) false fs.length (fun _ p => FunsS (s.length + 7) p.2 fs p.1 ∧ p.2.length = J0.length ∧ ShapeO 1 (s.length + 7) p.2 ch.length xH) (fun i p => [(9, .int .i64 i), (37, .any), (38, .any), (39, .any), (40, .any), (41, .any), (10, .any), (44, .any), (45, .any), (46, .any), (47, .any), (48, .any), (49, .any), (50, .any), (51, .any), (52, .any), (55, .any), (56, .any), (57, .any), (58, .any), (59, .any), (60, .any), (61, .any), (62, .any), (63, .any), (53, .any), (54, .any), (64, .any), (65, .any), (66, .any), (67, .any), (68, .any), (42, .any), (43, .any)]) (fun _ p => s ++ (AObj.cells [row pf, .int .i64 pm, row pc, row ps, row ph, row po, .int .i64 pt] :: AObj.cells [row qf, .int .i64 qm, row qc, row qs, row qh, row qo, .int .i64 qt] :: .cells [row fs, .int .i64 mu, row co, row se, row ch, row cho, .int .i64 th] :: .cells [row fs', .int .i64 mu', row co', row se', row ch', row cho', .int .i64 th'] :: a0 :: z0 :: .cells p.1 :: (p.2 ++ (K ++ [.cells [.ref 2 (s.length + 6) 0 fs.length false, .int .i64 mu, xC, xS, xH, xO, .int .i64 th]])))) (fun _ _ => v3) ?_ ?_
  · exact ⟨(r, J0), ⟨hF, rfl, hH⟩, by (refine Fits.of ?_ (Off.refl _ _); simp [upd_apply, upds_cons]), by simp, rfl⟩
  rintro i ⟨r', J'⟩ hi ⟨hF, hJl, hH⟩
  simp only at hF hJl hH
  have hgC : ∀ J', J'.length = J0.length → (J' ++ (K ++ [.cells [.ref 2 (s.length + 6) 0 fs.length false, .int .i64 mu, xC, xS, xH, xO, .int .i64 th]]))[J0.length + K.length]? = some (.cells [.ref 2 (s.length + 6) 0 fs.length false, .int .i64 mu, xC, xS, xH, xO, .int .i64 th]) := fun J' h => by rw [← h, get_app, get_app0]; rfl
  have hgC0 := hgC J' hJl
  by_cases hlt : i < fs.length
  · obtain ⟨x, e2, hx⟩ := hF.2 i hlt
    have hrl := hF.1
    have hl7 := l7 i hlt
    have hxl := hx.len (P := Try.prog) (t := 41) (by kernel_rfl)
    have hle : i * 2 + 1 ≤ r'.length := by omega
    have hle2 : i * 2 + 1 + 1 ≤ r'.length := by omega
    have hle3 : i * 2 + 1 ≤ fs.length * 2 := by omega
    have hle4 : i * 2 + 1 + 1 ≤ fs.length * 2 := by omega
    repeat' (first | with_reducible refine br_t ?_ | with_reducible refine br_f ?_ | with_reducible refine br_dec (fun _ => ?_) (fun _ => ?_) | with_reducible refine g_dec (fun _ => ?_) (fun _ => ?_) | with_reducible refine g_ndec (fun _ => ?_) (fun _ => ?_) | with_reducible refine br_not (fun _ => ?_) (fun _ => ?_) | with_reducible refine br_split (fun _ => ?_) (fun _ => ?_) | with_reducible refine g_not (fun _ => ?_) (fun _ => ?_) | with_reducible refine g_split (fun _ => ?_) (fun _ => ?_) | with_reducible refine px_dec (fun _ => ?_) (fun _ => ?_) | with_reducible refine px_ndec (fun _ => ?_) (fun _ => ?_) | with_reducible refine px_split (fun _ => ?_) (fun _ => ?_) | (with_reducible refine aWh_draw (own := false) (id := 5) (.qs [0, 1, 3, 4] (.w 2 [4, 3] (.w 5 [] (.qs [6, 7, 8, 9, 10, 11, 12, 13, 14, 15] .nil)))) mixed ?_ ?_ ?_; kernel_rfl; kernel_rfl) | simp -implicitDefEqProofs (maxSteps := 2000000) (disch := first | assumption | omega) [*, ])
    refine aW_for (β := List AObj) false (nth fs i).code.length (fun _ J2 => FunsS (s.length + 7) J2 fs r' ∧ J2.length = J0.length ∧ ShapeO 1 (s.length + 7) J2 ch.length xH ∧ ShapeO 2 (s.length + 7) J2 (nth fs i).code.length x) (fun k _ => [(10, .int .i64 k), (44, .any), (45, .any), (46, .any), (47, .any), (48, .any), (49, .any), (50, .any), (51, .any), (52, .any), (55, .any), (56, .any), (57, .any), (58, .any), (59, .any), (60, .any), (61, .any), (62, .any), (63, .any), (53, .any), (54, .any)]) (fun _ J2 => s ++ (AObj.cells [row pf, .int .i64 pm, row pc, row ps, row ph, row po, .int .i64 pt] :: AObj.cells [row qf, .int .i64 qm, row qc, row qs, row qh, row qo, .int .i64 qt] :: .cells [row fs, .int .i64 mu, row co, row se, row ch, row cho, .int .i64 th] :: .cells [row fs', .int .i64 mu', row co', row se', row ch', row cho', .int .i64 th'] :: a0 :: z0 :: .cells r' :: (J2 ++ (K ++ [.cells [.ref 2 (s.length + 6) 0 fs.length false, .int .i64 mu, xC, xS, xH, xO, .int .i64 th]])))) (fun _ _ => v3) ?_ ?_
    · exact ⟨J', ⟨hF, hJl, hH, hx⟩, by (refine Fits.of ?_ (Off.refl _ _); simp [upd_apply, upds_cons]), rfl, rfl⟩
    rintro k J2 hk ⟨hF2, hJ2, hH2, hx2⟩
    have hgC2 := hgC J2 hJ2
    by_cases hkl : k < (nth fs i).code.length
    · rcases hx2 with ⟨h0, _⟩ | ⟨hn0, d, cs, hxe, hd, hcs⟩
      · exact absurd h0 (by omega)
      replace hxe : x = .ref 2 (s.length + (d + 7)) 0 (nth fs i).code.length false := by rw [hxe]; congr 1; omega
      have hx3 : ShapeO 2 (s.length + 7) J2 (nth fs i).code.length x := .inr ⟨hn0, d, cs, by rw [hxe]; congr 1; omega, hd, hcs⟩
      subst hxe
      have hd1 := (List.getElem?_eq_some_iff.1 hd).1
      have hgd : (J2 ++ (K ++ [AObj.cells [.ref 2 (s.length + 6) 0 fs.length false, .int .i64 mu, xC, xS, xH, xO, .int .i64 th]]))[d]? = some (.cells cs) := by rw [List.getElem?_append_left hd1]; exact hd
      have hst : ∀ o : AObj, (J2 ++ (K ++ [AObj.cells [.ref 2 (s.length + 6) 0 fs.length false, .int .i64 mu, xC, xS, xH, xO, .int .i64 th]])).set d o = J2.set d o ++ (K ++ [AObj.cells [.ref 2 (s.length + 6) 0 fs.length false, .int .i64 mu, xC, xS, xH, xO, .int .i64 th]]) := fun o => List.set_append_left _ _ hd1
      have hq1 : k * 2 + 2 ≤ cs.length := by omega
      have hq2 : k * 2 + 2 ≤ (nth fs i).code.length * 2 := by omega
      repeat' (first | with_reducible refine br_t ?_ | with_reducible refine br_f ?_ | with_reducible refine br_dec (fun _ => ?_) (fun _ => ?_) | with_reducible refine g_dec (fun _ => ?_) (fun _ => ?_) | with_reducible refine g_ndec (fun _ => ?_) (fun _ => ?_) | with_reducible refine br_not (fun _ => ?_) (fun _ => ?_) | with_reducible refine br_split (fun _ => ?_) (fun _ => ?_) | with_reducible refine g_not (fun _ => ?_) (fun _ => ?_) | with_reducible refine g_split (fun _ => ?_) (fun _ => ?_) | with_reducible refine px_dec (fun _ => ?_) (fun _ => ?_) | with_reducible refine px_ndec (fun _ => ?_) (fun _ => ?_) | with_reducible refine px_split (fun _ => ?_) (fun _ => ?_) | (with_reducible refine aWh_draw (own := false) (id := 5) (.qs [0, 1, 3, 4] (.w 2 [4, 3] (.w 5 [] (.qs [6, 7, 8, 9, 10, 11, 12, 13, 14, 15] .nil)))) mixed ?_ ?_ ?_; kernel_rfl; kernel_rfl) | simp -implicitDefEqProofs (maxSteps := 2000000) (disch := first | assumption | omega) [*, ])
      exact ⟨hkl, J2.set d (.cells ((cs.set (k * 2) (.int .i64 26)).set (k * 2 + 1) (.int .i64 0))), ⟨hF2.put hd (by simp), by simp [hJ2], hH2.put hd (by simp), hx3.put hd (by simp)⟩, by (refine Fits.of ?_ ?_; rotate_left; (repeat (first | with_reducible exact Off.refl _ _ | refine Off.upd rfl ?_ | refine Off.updO rfl ?_ | refine Off.upds rfl ?_)); simp [upd_apply, upds_cons]), rfl, rfl⟩
    · have : k = (nth fs i).code.length := by omega
      subst this
      repeat' (first | with_reducible refine br_t ?_ | with_reducible refine br_f ?_ | with_reducible refine br_dec (fun _ => ?_) (fun _ => ?_) | with_reducible refine g_dec (fun _ => ?_) (fun _ => ?_) | with_reducible refine g_ndec (fun _ => ?_) (fun _ => ?_) | with_reducible refine br_not (fun _ => ?_) (fun _ => ?_) | with_reducible refine br_split (fun _ => ?_) (fun _ => ?_) | with_reducible refine g_not (fun _ => ?_) (fun _ => ?_) | with_reducible refine g_split (fun _ => ?_) (fun _ => ?_) | with_reducible refine px_dec (fun _ => ?_) (fun _ => ?_) | with_reducible refine px_ndec (fun _ => ?_) (fun _ => ?_) | with_reducible refine px_split (fun _ => ?_) (fun _ => ?_) | (with_reducible refine aWh_draw (own := false) (id := 5) (.qs [0, 1, 3, 4] (.w 2 [4, 3] (.w 5 [] (.qs [6, 7, 8, 9, 10, 11, 12, 13, 14, 15] .nil)))) mixed ?_ ?_ ?_; kernel_rfl; kernel_rfl) | simp -implicitDefEqProofs (maxSteps := 2000000) (disch := first | assumption | omega) [*, ])
      exact ⟨hlt, (r'.set (i * 2) (.int .i64 8), J2), ⟨hF2.setLocals i _, hJ2, hH2⟩, by (refine Fits.of ?_ ?_; rotate_left; (repeat (first | with_reducible exact Off.refl _ _ | refine Off.upd rfl ?_ | refine Off.updO rfl ?_ | refine Off.upds rfl ?_)); simp [upd_apply, upds_cons]), rfl, rfl⟩
  · have : i = fs.length := by omega
    subst this
    have hHl := hH.len (P := Try.prog) (t := 23) (by kernel_rfl)
    rcases hK with ⟨hc0, rfl, hO⟩ | ⟨hcne, rO, J1, rfl, hOe, hL⟩
    · clear hc0
      have hOl := NilRow.len (P := Try.prog) (t := 24) (by kernel_rfl) hO
      simp only [List.nil_append, List.length_nil, Nat.add_zero] at *
      repeat' (first | with_reducible refine br_t ?_ | with_reducible refine br_f ?_ | with_reducible refine br_dec (fun _ => ?_) (fun _ => ?_) | with_reducible refine g_dec (fun _ => ?_) (fun _ => ?_) | with_reducible refine g_ndec (fun _ => ?_) (fun _ => ?_) | with_reducible refine br_not (fun _ => ?_) (fun _ => ?_) | with_reducible refine br_split (fun _ => ?_) (fun _ => ?_) | with_reducible refine g_not (fun _ => ?_) (fun _ => ?_) | with_reducible refine g_split (fun _ => ?_) (fun _ => ?_) | with_reducible refine px_dec (fun _ => ?_) (fun _ => ?_) | with_reducible refine px_ndec (fun _ => ?_) (fun _ => ?_) | with_reducible refine px_split (fun _ => ?_) (fun _ => ?_) | (with_reducible refine aWh_draw (own := false) (id := 5) (.qs [0, 1, 3, 4] (.w 2 [4, 3] (.w 5 [] (.qs [6, 7, 8, 9, 10, 11, 12, 13, 14, 15] .nil)))) mixed ?_ ?_ ?_; kernel_rfl; kernel_rfl) | simp -implicitDefEqProofs (maxSteps := 2000000) (disch := first | assumption | omega) [*, ])
      refine aW_for (β := Unit) false 0 (fun _ _ => True) (fun k _ => [(11, .int .i64 k), (69, .any), (70, .any), (71, .any), (72, .any), (73, .any), (76, .any), (77, .any), (78, .any), (79, .any), (80, .any), (81, .any), (74, .any), (75, .any)]) (fun _ _ => s ++ (AObj.cells [row pf, .int .i64 pm, row pc, row ps, row ph, row po, .int .i64 pt] :: AObj.cells [row qf, .int .i64 qm, row qc, row qs, row qh, row qo, .int .i64 qt] :: .cells [row fs, .int .i64 mu, row co, row se, row ch, row cho, .int .i64 th] :: .cells [row fs', .int .i64 mu', row co', row se', row ch', row cho', .int .i64 th'] :: a0 :: z0 :: .cells r' :: (J' ++ [AObj.cells [.ref 2 (s.length + 6) 0 fs.length false, .int .i64 mu, xC, xS, xH, xO, .int .i64 th]]))) (fun _ _ => v3) ?_ ?_
      · exact ⟨(), trivial, by (refine Fits.of ?_ (Off.refl _ _); simp [upd_apply, upds_cons]), rfl, rfl⟩
      rintro k _ hk _
      repeat' (first | with_reducible refine br_t ?_ | with_reducible refine br_f ?_ | with_reducible refine br_dec (fun _ => ?_) (fun _ => ?_) | with_reducible refine g_dec (fun _ => ?_) (fun _ => ?_) | with_reducible refine g_ndec (fun _ => ?_) (fun _ => ?_) | with_reducible refine br_not (fun _ => ?_) (fun _ => ?_) | with_reducible refine br_split (fun _ => ?_) (fun _ => ?_) | with_reducible refine g_not (fun _ => ?_) (fun _ => ?_) | with_reducible refine g_split (fun _ => ?_) (fun _ => ?_) | with_reducible refine px_dec (fun _ => ?_) (fun _ => ?_) | with_reducible refine px_ndec (fun _ => ?_) (fun _ => ?_) | with_reducible refine px_split (fun _ => ?_) (fun _ => ?_) | (with_reducible refine aWh_draw (own := false) (id := 5) (.qs [0, 1, 3, 4] (.w 2 [4, 3] (.w 5 [] (.qs [6, 7, 8, 9, 10, 11, 12, 13, 14, 15] .nil)))) mixed ?_ ?_ ?_; kernel_rfl; kernel_rfl) | simp -implicitDefEqProofs (maxSteps := 2000000) (disch := first | assumption | omega) [*, ])
      all_goals first | (exfalso; omega) | skip
      refine aW_for (β := List AObj) false ch.length (fun _ J3 => J3.length = J0.length ∧ ShapeO 1 (s.length + 7) J3 ch.length xH) (fun k _ => [(12, .int .i64 k), (82, .any), (83, .any), (84, .any), (85, .any), (86, .any), (89, .any), (90, .any), (91, .any), (92, .any), (87, .any), (88, .any)]) (fun _ J3 => s ++ (AObj.cells [row pf, .int .i64 pm, row pc, row ps, row ph, row po, .int .i64 pt] :: AObj.cells [row qf, .int .i64 qm, row qc, row qs, row qh, row qo, .int .i64 qt] :: .cells [row fs, .int .i64 mu, row co, row se, row ch, row cho, .int .i64 th] :: .cells [row fs', .int .i64 mu', row co', row se', row ch', row cho', .int .i64 th'] :: a0 :: z0 :: .cells r' :: (J3 ++ [AObj.cells [.ref 2 (s.length + 6) 0 fs.length false, .int .i64 mu, xC, xS, xH, xO, .int .i64 th]]))) (fun _ _ => v3) ?_ ?_
      · exact ⟨J', ⟨hJl, hH⟩, by (refine Fits.of ?_ (Off.refl _ _); simp [upd_apply, upds_cons]), rfl, rfl⟩
      rintro k J3 hk ⟨hJ3, hH3⟩
      have hgC3 := hgC J3 hJ3
      by_cases hkl : k < ch.length
      · rcases hH3 with ⟨h0, _⟩ | ⟨hn0, d, cs, hxe, hd, hcs⟩
        · exact absurd h0 (by omega)
        have hH4 : ShapeO 1 (s.length + 7) J3 ch.length xH := .inr ⟨hn0, d, cs, hxe, hd, hcs⟩
        replace hxe : xH = .ref 1 (s.length + (d + 7)) 0 ch.length false := by rw [hxe]; congr 1; omega
        have hd1 := (List.getElem?_eq_some_iff.1 hd).1
        have hgd : (J3 ++ [AObj.cells [.ref 2 (s.length + 6) 0 fs.length false, .int .i64 mu, xC, xS, xH, xO, .int .i64 th]])[d]? = some (.cells cs) := by rw [List.getElem?_append_left hd1]; exact hd
        have hst : ∀ o : AObj, (J3 ++ [AObj.cells [.ref 2 (s.length + 6) 0 fs.length false, .int .i64 mu, xC, xS, xH, xO, .int .i64 th]]).set d o = J3.set d o ++ [AObj.cells [.ref 2 (s.length + 6) 0 fs.length false, .int .i64 mu, xC, xS, xH, xO, .int .i64 th]] := fun o => List.set_append_left _ _ hd1
        have hq1 : k + 1 ≤ cs.length := by omega
        have hq2 : k + 1 ≤ ch.length := by omega
        subst hxe
        repeat' (first | with_reducible refine br_t ?_ | with_reducible refine br_f ?_ | with_reducible refine br_dec (fun _ => ?_) (fun _ => ?_) | with_reducible refine g_dec (fun _ => ?_) (fun _ => ?_) | with_reducible refine g_ndec (fun _ => ?_) (fun _ => ?_) | with_reducible refine br_not (fun _ => ?_) (fun _ => ?_) | with_reducible refine br_split (fun _ => ?_) (fun _ => ?_) | with_reducible refine g_not (fun _ => ?_) (fun _ => ?_) | with_reducible refine g_split (fun _ => ?_) (fun _ => ?_) | with_reducible refine px_dec (fun _ => ?_) (fun _ => ?_) | with_reducible refine px_ndec (fun _ => ?_) (fun _ => ?_) | with_reducible refine px_split (fun _ => ?_) (fun _ => ?_) | (with_reducible refine aWh_draw (own := false) (id := 5) (.qs [0, 1, 3, 4] (.w 2 [4, 3] (.w 5 [] (.qs [6, 7, 8, 9, 10, 11, 12, 13, 14, 15] .nil)))) mixed ?_ ?_ ?_; kernel_rfl; kernel_rfl) | simp -implicitDefEqProofs (maxSteps := 2000000) (disch := first | assumption | omega) [*, ])
        exact ⟨hkl, J3.set d (.cells (cs.set k (.int .i64 8))), ⟨by simp [hJ3], hH4.put hd (by simp)⟩, by (refine Fits.of ?_ ?_; rotate_left; (repeat (first | with_reducible exact Off.refl _ _ | refine Off.upd rfl ?_ | refine Off.updO rfl ?_ | refine Off.upds rfl ?_)); simp [upd_apply, upds_cons]), rfl, rfl⟩
      · have : k = ch.length := by omega
        subst this
        repeat' (first | with_reducible refine br_t ?_ | with_reducible refine br_f ?_ | with_reducible refine br_dec (fun _ => ?_) (fun _ => ?_) | with_reducible refine g_dec (fun _ => ?_) (fun _ => ?_) | with_reducible refine g_ndec (fun _ => ?_) (fun _ => ?_) | with_reducible refine br_not (fun _ => ?_) (fun _ => ?_) | with_reducible refine br_split (fun _ => ?_) (fun _ => ?_) | with_reducible refine g_not (fun _ => ?_) (fun _ => ?_) | with_reducible refine g_split (fun _ => ?_) (fun _ => ?_) | with_reducible refine px_dec (fun _ => ?_) (fun _ => ?_) | with_reducible refine px_ndec (fun _ => ?_) (fun _ => ?_) | with_reducible refine px_split (fun _ => ?_) (fun _ => ?_) | (with_reducible refine aWh_draw (own := false) (id := 5) (.qs [0, 1, 3, 4] (.w 2 [4, 3] (.w 5 [] (.qs [6, 7, 8, 9, 10, 11, 12, 13, 14, 15] .nil)))) mixed ?_ ?_ ?_; kernel_rfl; kernel_rfl) | with_reducible refine callC hrw (fun v4 hv4 => ?_) | with_reducible refine callE hsm ?_ | with_reducible refine callC lives_p (fun v5 hv5 => ?_) | simp -implicitDefEqProofs (maxSteps := 2000000) (disch := first | assumption | omega) [*, ])
        exact Ends.eqat rfl rfl ((((hv1.trans hv2).trans hv3).trans hv4).trans hv5)
    · replace hOe : xO = .ref 1 (s.length + (J0.length + 7)) 0 cho.length false := by rw [hOe]; congr 1; omega
      subst hOe
      have hL := hL.shape
      rw [show s.length + (4 + (J0.length + 4)) = s.length + (J0.length + 8) by omega] at hL
      simp only [List.length_cons, List.cons_append] at hgC0 hgC
      have hgO : (J' ++ (AObj.cells rO :: (J1 ++ [AObj.cells [.ref 2 (s.length + 6) 0 fs.length false, .int .i64 mu, xC, xS, xH, .ref 1 (s.length + (J0.length + 7)) 0 cho.length false, .int .i64 th]])))[J0.length]? = some (.cells rO) := by rw [← hJl, get_app0]; rfl
      repeat' (first | with_reducible refine br_t ?_ | with_reducible refine br_f ?_ | with_reducible refine br_dec (fun _ => ?_) (fun _ => ?_) | with_reducible refine g_dec (fun _ => ?_) (fun _ => ?_) | with_reducible refine g_ndec (fun _ => ?_) (fun _ => ?_) | with_reducible refine br_not (fun _ => ?_) (fun _ => ?_) | with_reducible refine br_split (fun _ => ?_) (fun _ => ?_) | with_reducible refine g_not (fun _ => ?_) (fun _ => ?_) | with_reducible refine g_split (fun _ => ?_) (fun _ => ?_) | with_reducible refine px_dec (fun _ => ?_) (fun _ => ?_) | with_reducible refine px_ndec (fun _ => ?_) (fun _ => ?_) | with_reducible refine px_split (fun _ => ?_) (fun _ => ?_) | (with_reducible refine aWh_draw (own := false) (id := 5) (.qs [0, 1, 3, 4] (.w 2 [4, 3] (.w 5 [] (.qs [6, 7, 8, 9, 10, 11, 12, 13, 14, 15] .nil)))) mixed ?_ ?_ ?_; kernel_rfl; kernel_rfl) | simp -implicitDefEqProofs (maxSteps := 2000000) (disch := first | assumption | omega) [*, ])
      refine aW_for (β := List AObj) false cho.length (fun _ J5 => ListsS (s.length + (J0.length + 8)) J5 cho rO ∧ J5.length = J1.length) (fun k _ => [(11, .int .i64 k), (69, .any), (70, .any), (71, .any), (72, .any), (73, .any), (76, .any), (77, .any), (78, .any), (79, .any), (80, .any), (81, .any), (74, .any), (75, .any)]) (fun _ J5 => s ++ (AObj.cells [row pf, .int .i64 pm, row pc, row ps, row ph, row po, .int .i64 pt] :: AObj.cells [row qf, .int .i64 qm, row qc, row qs, row qh, row qo, .int .i64 qt] :: .cells [row fs, .int .i64 mu, row co, row se, row ch, row cho, .int .i64 th] :: .cells [row fs', .int .i64 mu', row co', row se', row ch', row cho', .int .i64 th'] :: a0 :: z0 :: .cells r' :: (J' ++ (AObj.cells rO :: (J5 ++ [AObj.cells [.ref 2 (s.length + 6) 0 fs.length false, .int .i64 mu, xC, xS, xH, .ref 1 (s.length + (J0.length + 7)) 0 cho.length false, .int .i64 th]]))))) (fun _ _ => v3) ?_ ?_
      · exact ⟨J1, ⟨hL, rfl⟩, by (refine Fits.of ?_ (Off.refl _ _); simp [upd_apply, upds_cons]), rfl, rfl⟩
      rintro k J5 hk ⟨hL5, hJ5⟩
      have hgK : ∀ J', J'.length = J0.length → (J' ++ (AObj.cells rO :: (J5 ++ [AObj.cells [.ref 2 (s.length + 6) 0 fs.length false, .int .i64 mu, xC, xS, xH, .ref 1 (s.length + (J0.length + 7)) 0 cho.length false, .int .i64 th]])))[J0.length + (J1.length + 1)]? = some (.cells [.ref 2 (s.length + 6) 0 fs.length false, .int .i64 mu, xC, xS, xH, .ref 1 (s.length + (J0.length + 7)) 0 cho.length false, .int .i64 th]) := fun J' h => by rw [← h, ← hJ5, get_app, List.getElem?_cons_succ, get_app0]; rfl
      have hgK0 := hgK J' hJl
      have hgO : (J' ++ (AObj.cells rO :: (J5 ++ [AObj.cells [.ref 2 (s.length + 6) 0 fs.length false, .int .i64 mu, xC, xS, xH, .ref 1 (s.length + (J0.length + 7)) 0 cho.length false, .int .i64 th]])))[J0.length]? = some (.cells rO) := by rw [← hJl, get_app0]; rfl
      by_cases hkl : k < cho.length
      · obtain ⟨x, e2, hx⟩ := hL5.2 k hkl
        have hn0 := hchoP k hkl
        have hn1 : (0 : Int) < ((nth cho k).length : Int) := by omega
        have hrl := hL5.1
        rcases hx with ⟨h0, _⟩ | ⟨_, d, cs, hxe, hd, hcs⟩
        · exact absurd h0 (by omega)
        replace hxe : x = .ref 1 (s.length + (J0.length + d + 8)) 0 (nth cho k).length false := by rw [hxe]; congr 1; omega
        have hd1 := (List.getElem?_eq_some_iff.1 hd).1
        have hgd : (J' ++ (AObj.cells rO :: (J5 ++ [AObj.cells [.ref 2 (s.length + 6) 0 fs.length false, .int .i64 mu, xC, xS, xH, .ref 1 (s.length + (J0.length + 7)) 0 cho.length false, .int .i64 th]])))[J0.length + d + 1]? = some (.cells cs) := by
          rw [← hJl, show J'.length + d + 1 = J'.length + (d + 1) by omega, get_app, List.getElem?_cons_succ, List.getElem?_append_left hd1]; exact hd
        have hst : ∀ o : AObj, (J' ++ (AObj.cells rO :: (J5 ++ [AObj.cells [.ref 2 (s.length + 6) 0 fs.length false, .int .i64 mu, xC, xS, xH, .ref 1 (s.length + (J0.length + 7)) 0 cho.length false, .int .i64 th]]))).set (J0.length + d + 1) o = J' ++ (AObj.cells rO :: (J5.set d o ++ [AObj.cells [.ref 2 (s.length + 6) 0 fs.length false, .int .i64 mu, xC, xS, xH, .ref 1 (s.length + (J0.length + 7)) 0 cho.length false, .int .i64 th]])) := fun o => by
          rw [← hJl, show J'.length + d + 1 = J'.length + (d + 1) by omega, set_app, List.set_cons_succ, List.set_append_left _ _ hd1]
        have hq1 : 1 ≤ cs.length := by omega
        have hq2 : 0 < cs.length := by omega
        have hq3 : k + 1 ≤ rO.length := by omega
        have hq4 : k + 1 ≤ cho.length := by omega
        have hq5 : 1 ≤ (nth cho k).length := by omega
        subst hxe
        repeat' (first | with_reducible refine br_t ?_ | with_reducible refine br_f ?_ | with_reducible refine br_dec (fun _ => ?_) (fun _ => ?_) | with_reducible refine g_dec (fun _ => ?_) (fun _ => ?_) | with_reducible refine g_ndec (fun _ => ?_) (fun _ => ?_) | with_reducible refine br_not (fun _ => ?_) (fun _ => ?_) | with_reducible refine br_split (fun _ => ?_) (fun _ => ?_) | with_reducible refine g_not (fun _ => ?_) (fun _ => ?_) | with_reducible refine g_split (fun _ => ?_) (fun _ => ?_) | with_reducible refine px_dec (fun _ => ?_) (fun _ => ?_) | with_reducible refine px_ndec (fun _ => ?_) (fun _ => ?_) | with_reducible refine px_split (fun _ => ?_) (fun _ => ?_) | (with_reducible refine aWh_draw (own := false) (id := 5) (.qs [0, 1, 3, 4] (.w 2 [4, 3] (.w 5 [] (.qs [6, 7, 8, 9, 10, 11, 12, 13, 14, 15] .nil)))) mixed ?_ ?_ ?_; kernel_rfl; kernel_rfl) | simp -implicitDefEqProofs (maxSteps := 2000000) (disch := first | assumption | omega) [*, ])
        exact ⟨hkl, J5.set d (.cells (cs.set 0 (.int .i64 7))), ⟨hL5.put hd (by simp), by simp [hJ5]⟩, by (refine Fits.of ?_ ?_; rotate_left; (repeat (first | with_reducible exact Off.refl _ _ | refine Off.upd rfl ?_ | refine Off.updO rfl ?_ | refine Off.upds rfl ?_)); simp [upd_apply, upds_cons]), rfl, rfl⟩
      · have : k = cho.length := by omega
        subst this
        repeat' (first | with_reducible refine br_t ?_ | with_reducible refine br_f ?_ | with_reducible refine br_dec (fun _ => ?_) (fun _ => ?_) | with_reducible refine g_dec (fun _ => ?_) (fun _ => ?_) | with_reducible refine g_ndec (fun _ => ?_) (fun _ => ?_) | with_reducible refine br_not (fun _ => ?_) (fun _ => ?_) | with_reducible refine br_split (fun _ => ?_) (fun _ => ?_) | with_reducible refine g_not (fun _ => ?_) (fun _ => ?_) | with_reducible refine g_split (fun _ => ?_) (fun _ => ?_) | with_reducible refine px_dec (fun _ => ?_) (fun _ => ?_) | with_reducible refine px_ndec (fun _ => ?_) (fun _ => ?_) | with_reducible refine px_split (fun _ => ?_) (fun _ => ?_) | (with_reducible refine aWh_draw (own := false) (id := 5) (.qs [0, 1, 3, 4] (.w 2 [4, 3] (.w 5 [] (.qs [6, 7, 8, 9, 10, 11, 12, 13, 14, 15] .nil)))) mixed ?_ ?_ ?_; kernel_rfl; kernel_rfl) | simp -implicitDefEqProofs (maxSteps := 2000000) (disch := first | assumption | omega) [*, ])
        refine aW_for (β := List AObj) false ch.length (fun _ J3 => J3.length = J0.length ∧ ShapeO 1 (s.length + 7) J3 ch.length xH) (fun k _ => [(12, .int .i64 k), (82, .any), (83, .any), (84, .any), (85, .any), (86, .any), (89, .any), (90, .any), (91, .any), (92, .any), (87, .any), (88, .any)]) (fun _ J3 => s ++ (AObj.cells [row pf, .int .i64 pm, row pc, row ps, row ph, row po, .int .i64 pt] :: AObj.cells [row qf, .int .i64 qm, row qc, row qs, row qh, row qo, .int .i64 qt] :: .cells [row fs, .int .i64 mu, row co, row se, row ch, row cho, .int .i64 th] :: .cells [row fs', .int .i64 mu', row co', row se', row ch', row cho', .int .i64 th'] :: a0 :: z0 :: .cells r' :: (J3 ++ (AObj.cells rO :: (J5 ++ [AObj.cells [.ref 2 (s.length + 6) 0 fs.length false, .int .i64 mu, xC, xS, xH, .ref 1 (s.length + (J0.length + 7)) 0 cho.length false, .int .i64 th]]))))) (fun _ _ => v3) ?_ ?_
        · exact ⟨J', ⟨hJl, hH⟩, by (refine Fits.of ?_ (Off.refl _ _); simp [upd_apply, upds_cons]), rfl, rfl⟩
        rintro k J3 hk ⟨hJ3, hH3⟩
        have hgC3 := hgK J3 hJ3
        by_cases hkl : k < ch.length
        · rcases hH3 with ⟨h0, _⟩ | ⟨hn0, d, cs, hxe, hd, hcs⟩
          · exact absurd h0 (by omega)
          have hH4 : ShapeO 1 (s.length + 7) J3 ch.length xH := .inr ⟨hn0, d, cs, hxe, hd, hcs⟩
          replace hxe : xH = .ref 1 (s.length + (d + 7)) 0 ch.length false := by rw [hxe]; congr 1; omega
          have hd1 := (List.getElem?_eq_some_iff.1 hd).1
          have hgd : (J3 ++ (AObj.cells rO :: (J5 ++ [AObj.cells [.ref 2 (s.length + 6) 0 fs.length false, .int .i64 mu, xC, xS, xH, .ref 1 (s.length + (J0.length + 7)) 0 cho.length false, .int .i64 th]])))[d]? = some (.cells cs) := by rw [List.getElem?_append_left hd1]; exact hd
          have hst : ∀ o : AObj, (J3 ++ (AObj.cells rO :: (J5 ++ [AObj.cells [.ref 2 (s.length + 6) 0 fs.length false, .int .i64 mu, xC, xS, xH, .ref 1 (s.length + (J0.length + 7)) 0 cho.length false, .int .i64 th]]))).set d o = J3.set d o ++ (AObj.cells rO :: (J5 ++ [AObj.cells [.ref 2 (s.length + 6) 0 fs.length false, .int .i64 mu, xC, xS, xH, .ref 1 (s.length + (J0.length + 7)) 0 cho.length false, .int .i64 th]])) := fun o => List.set_append_left _ _ hd1
          have hq1 : k + 1 ≤ cs.length := by omega
          have hq2 : k + 1 ≤ ch.length := by omega
          subst hxe
          repeat' (first | with_reducible refine br_t ?_ | with_reducible refine br_f ?_ | with_reducible refine br_dec (fun _ => ?_) (fun _ => ?_) | with_reducible refine g_dec (fun _ => ?_) (fun _ => ?_) | with_reducible refine g_ndec (fun _ => ?_) (fun _ => ?_) | with_reducible refine br_not (fun _ => ?_) (fun _ => ?_) | with_reducible refine br_split (fun _ => ?_) (fun _ => ?_) | with_reducible refine g_not (fun _ => ?_) (fun _ => ?_) | with_reducible refine g_split (fun _ => ?_) (fun _ => ?_) | with_reducible refine px_dec (fun _ => ?_) (fun _ => ?_) | with_reducible refine px_ndec (fun _ => ?_) (fun _ => ?_) | with_reducible refine px_split (fun _ => ?_) (fun _ => ?_) | (with_reducible refine aWh_draw (own := false) (id := 5) (.qs [0, 1, 3, 4] (.w 2 [4, 3] (.w 5 [] (.qs [6, 7, 8, 9, 10, 11, 12, 13, 14, 15] .nil)))) mixed ?_ ?_ ?_; kernel_rfl; kernel_rfl) | simp -implicitDefEqProofs (maxSteps := 2000000) (disch := first | assumption | omega) [*, ])
          exact ⟨hkl, J3.set d (.cells (cs.set k (.int .i64 8))), ⟨by simp [hJ3], hH4.put hd (by simp)⟩, by (refine Fits.of ?_ ?_; rotate_left; (repeat (first | with_reducible exact Off.refl _ _ | refine Off.upd rfl ?_ | refine Off.updO rfl ?_ | refine Off.upds rfl ?_)); simp [upd_apply, upds_cons]), rfl, rfl⟩
        · have : k = ch.length := by omega
          subst this
          repeat' (first | with_reducible refine br_t ?_ | with_reducible refine br_f ?_ | with_reducible refine br_dec (fun _ => ?_) (fun _ => ?_) | with_reducible refine g_dec (fun _ => ?_) (fun _ => ?_) | with_reducible refine g_ndec (fun _ => ?_) (fun _ => ?_) | with_reducible refine br_not (fun _ => ?_) (fun _ => ?_) | with_reducible refine br_split (fun _ => ?_) (fun _ => ?_) | with_reducible refine g_not (fun _ => ?_) (fun _ => ?_) | with_reducible refine g_split (fun _ => ?_) (fun _ => ?_) | with_reducible refine px_dec (fun _ => ?_) (fun _ => ?_) | with_reducible refine px_ndec (fun _ => ?_) (fun _ => ?_) | with_reducible refine px_split (fun _ => ?_) (fun _ => ?_) | (with_reducible refine aWh_draw (own := false) (id := 5) (.qs [0, 1, 3, 4] (.w 2 [4, 3] (.w 5 [] (.qs [6, 7, 8, 9, 10, 11, 12, 13, 14, 15] .nil)))) mixed ?_ ?_ ?_; kernel_rfl; kernel_rfl) | with_reducible refine callC hrw (fun v4 hv4 => ?_) | with_reducible refine callE hsm ?_ | with_reducible refine callC lives_p (fun v5 hv5 => ?_) | simp -implicitDefEqProofs (maxSteps := 2000000) (disch := first | assumption | omega) [*, ])
          exact Ends.eqat rfl rfl ((((hv1.trans hv2).trans hv3).trans hv4).trans hv5)

end Go.Hb
