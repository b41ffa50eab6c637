/-
  A layer for reasoning about the program's calls, and contracts of its functions (WO). CONDITIONS: none; each theorem bears its own.
-/
import Derived.Test.YtcpmmldgimhppaaGreatX
import Derived.Test.YtcpmmldgimhppaaGreatL9
set_option linter.unusedVariables false
set_option linter.unusedSimpArgs false
namespace Go.Hb
open Go Go.Proofs Go.RowKit
set_option maxRecDepth 100000
set_option maxHeartbeats 800000
attribute [-simp] aC aL aOper aThen aInBlock aIf aPlan aAppend aLen aIndexAddr aSlice aCells aBounds lBr aq initT aev aAppendOwn aAppendNil aAppendNew aAppendRef LV.cells LV.cellsOk getElem?_pos getElem?_neg

/-- A row of the call's own is handed on. -/
def OwnR (s : List AObj) (v : List Nat) (l : List UInt8) (y : LV) (s' : List AObj) (v' : List Nat) : Prop := ∃ D d, s ++ D = s' ∧ y = .ref 1 (s.length + d) 0 l.length false ∧ Live D d l ∧ v <+: v'
theorem rshort_o {n : Int} (hn : n ≤ 9223372036854775807) {s : List AObj} {v : List Nat} : aCalls Tryz.prog 17 [.int .i64 n] s v (OwnR s v (shortB n)) := by
  have hlen := shortB_len hn
  obtain ⟨m, hm⟩ : ∃ m : Nat, m = n.toNat := ⟨_, rfl⟩
  have hsb : shortB n = shortN m := by unfold shortB; rw [hm]
  rw [hsb] at hlen ⊢
  obtain ⟨y, hy1, hy2, hy3⟩ : ∃ y : Int, (n < 0 → y = 0) ∧ (0 ≤ n → y = n) ∧ y = m := ⟨m, by omega, by omega, rfl⟩
  refine aCalls_go Tryz.func17 rfl (by decide) Tryz.ntmps17 (by simp) true ?_
  have hres : Tryz.f17.results = #[.tmp 2] := rfl
  repeat' (first | with_reducible refine br_t ?_ | with_reducible refine br_f ?_ | with_reducible refine br_dec (fun _ => ?_) (fun _ => ?_) | with_reducible refine g_dec (fun _ => ?_) (fun _ => ?_) | with_reducible refine g_ndec (fun _ => ?_) (fun _ => ?_) | with_reducible refine br_not (fun _ => ?_) (fun _ => ?_) | with_reducible refine br_split (fun _ => ?_) (fun _ => ?_) | with_reducible refine g_not (fun _ => ?_) (fun _ => ?_) | with_reducible refine g_split (fun _ => ?_) (fun _ => ?_) | with_reducible refine px_dec (fun _ => ?_) (fun _ => ?_) | with_reducible refine px_ndec (fun _ => ?_) (fun _ => ?_) | with_reducible refine px_split (fun _ => ?_) (fun _ => ?_) | simp -implicitDefEqProofs (maxSteps := 2000000) (disch := first | assumption | omega) [*, ])
  all_goals
    refine aW_fall (β := Nat × LV × List UInt8 × List AObj × Nat) true (fun p => p.2.2.1 ++ shortN p.1 = shortN m ∧ RowR (s ++ p.2.2.2.1) 1 p.2.2.1.length (rowCs p.2.2.1) p.2.1 (s.length + p.2.2.2.2) ∧ (p.2.2.1 ≠ [] → p.2.2.2.2 < p.2.2.2.1.length) ∧ p.1 ≤ 9223372036854775807) (fun p => p.1) (fun p => [(0, .int .i64 p.1), (3, p.2.1), (6, .any), (7, .any), (8, .any), (9, .any), (10, .any), (11, .any), (12, .any), (13, .any), (14, .any), (15, .any), (16, .any)]) (fun p => s ++ p.2.2.2.1) (fun p => v) ?_ ?_
    · refine ⟨(m, .nils, [], [], 0), ⟨by simp, RowR.nil _ _ _, fun h => absurd rfl h, by show m ≤ _; omega⟩, ?_, by simp, rfl⟩
      (refine Fits.of ?_ (Off.refl _ _); simp [upd_apply, upds_cons])
      omega
    rintro ⟨q, x, cs, D, d⟩ ⟨he, hx, hd, hq⟩
    simp only at he hx hd hq
    have hcl : cs.length + (shortN q).length ≤ 9 := by
      have := congrArg List.length he
      simp only [List.length_append] at this
      omega
    by_cases h128 : q < 128
    · have hsq : shortN q = [UInt8.ofNat q] := by rw [shortN]; simp [h128]
      rw [hsq] at he hcl
      simp only [List.length_cons, List.length_nil] at hcl
      obtain ⟨D', ha, hr, hD, hlv⟩ := rowR_app0 (α := UInt8) (P := Tryz.prog) (t := 22) (t2 := 22) (by_ := 1) (by kernel_rfl) (by simp) (by omega) hx hd (UInt8.ofNat q) (by omega)
      simp only [enc_u8] at ha
      obtain ⟨z, hz⟩ : ∃ z : Int, z = ((UInt8.ofNat q).toNat : Int) := ⟨_, rfl⟩
      obtain ⟨hz1, hz2⟩ := u8_z hz
      rw [← hz] at ha
      simp only [sz_u8] at ha
      clear hz hx
      repeat' (first | with_reducible refine br_t ?_ | with_reducible refine br_f ?_ | with_reducible refine br_dec (fun _ => ?_) (fun _ => ?_) | with_reducible refine g_dec (fun _ => ?_) (fun _ => ?_) | with_reducible refine g_ndec (fun _ => ?_) (fun _ => ?_) | with_reducible refine br_not (fun _ => ?_) (fun _ => ?_) | with_reducible refine br_split (fun _ => ?_) (fun _ => ?_) | with_reducible refine g_not (fun _ => ?_) (fun _ => ?_) | with_reducible refine g_split (fun _ => ?_) (fun _ => ?_) | with_reducible refine px_dec (fun _ => ?_) (fun _ => ?_) | with_reducible refine px_ndec (fun _ => ?_) (fun _ => ?_) | with_reducible refine px_split (fun _ => ?_) (fun _ => ?_) | simp -implicitDefEqProofs (maxSteps := 2000000) (disch := first | assumption | omega) [*, ])
      all_goals first | (exfalso; omega) | skip
      rw [← hm, ← he]
      exact ⟨D', D.length, rfl, by simp, hlv, List.prefix_refl _⟩
    · have hsq : shortN q = UInt8.ofNat (128 + q % 128) :: shortN (q / 128) := by rw [shortN]; simp [h128]
      rw [hsq] at he hcl
      obtain ⟨D', ha, hr, hD, hlv⟩ := rowR_app0 (α := UInt8) (P := Tryz.prog) (t := 22) (t2 := 22) (by_ := 1) (by kernel_rfl) (by simp) (by omega) hx hd (UInt8.ofNat (128 + q % 128)) (by simp at hcl; omega)
      simp only [enc_u8] at ha
      obtain ⟨z, hz⟩ : ∃ z : Int, z = ((UInt8.ofNat (128 + q % 128)).toNat : Int) := ⟨_, rfl⟩
      have ht : (q : Int).tmod 128 = ((q % 128 : Nat) : Int) := by rw [Int.tmod_eq_emod_of_nonneg (by omega)]; omega
      have htd : (q : Int).tdiv 128 = ((q / 128 : Nat) : Int) := by rw [Int.tdiv_eq_ediv_of_nonneg (by omega)]; omega
      have hz1 : IntKind.u8.wrap (128 + ((q % 128 : Nat) : Int)) = z := by
        have := (u8_z hz).1
        rw [← this]; congr 1
      have hz2 : IntKind.u8.wrap (128 + (q : Int) % 128) = z := by
        rw [← hz1]; congr 1
      rw [← hz] at ha
      simp only [sz_u8] at ha
      clear hz hx
      repeat' (first | with_reducible refine br_t ?_ | with_reducible refine br_f ?_ | with_reducible refine br_dec (fun _ => ?_) (fun _ => ?_) | with_reducible refine g_dec (fun _ => ?_) (fun _ => ?_) | with_reducible refine g_ndec (fun _ => ?_) (fun _ => ?_) | with_reducible refine br_not (fun _ => ?_) (fun _ => ?_) | with_reducible refine br_split (fun _ => ?_) (fun _ => ?_) | with_reducible refine g_not (fun _ => ?_) (fun _ => ?_) | with_reducible refine g_split (fun _ => ?_) (fun _ => ?_) | with_reducible refine px_dec (fun _ => ?_) (fun _ => ?_) | with_reducible refine px_ndec (fun _ => ?_) (fun _ => ?_) | with_reducible refine px_split (fun _ => ?_) (fun _ => ?_) | simp -implicitDefEqProofs (maxSteps := 2000000) (disch := first | assumption | omega) [*, ])
      all_goals first | (exfalso; omega) | skip
      refine ⟨(q / 128, _, cs ++ [UInt8.ofNat (128 + q % 128)], D', D.length), by show q / 128 < q; omega, ⟨by simpa using he, by simpa using hr, fun _ => hD, by show q / 128 ≤ _; omega⟩, ?_, rfl, rfl⟩
      (refine Fits.of ?_ ?_; rotate_left; (repeat (first | with_reducible exact Off.refl _ _ | refine Off.upd rfl ?_ | refine Off.updO rfl ?_ | refine Off.upds rfl ?_)); simp [upd_apply, upds_cons])
theorem shortB_ne (n : Int) : shortB n ≠ [] := by unfold shortB; rw [shortN]; split <;> simp
theorem signedB_ne (n : Int) : signedB n ≠ [] := by
  have : ∀ v : Int, (if v < 0 then shortB (2 * (-(v + 1)) + 1) else shortB (2 * v)) ≠ [] := fun v => by split <;> exact shortB_ne _
  exact this _
theorem listB_ne (l : List Int) : listB l ≠ [] := by unfold listB; simp [shortB_ne]
set_option maxHeartbeats 8000000 in
theorem rwrite_o {fs : List Fn_} {mu th : Int} {co se ch : List Int} {cho : List (List Int)} (hp : mayP ⟨fs, mu, co, se, ch, cho, th⟩ = true) {s : List AObj} {vz : List Nat} :
    aCalls Tryz.prog 6 [.agg [row fs, .int .i64 mu, row co, row se, row ch, row cho, .int .i64 th]] s vz (OwnR s vz (writeP ⟨fs, mu, co, se, ch, cho, th⟩)) := by
  obtain ⟨q1, q2, q3, q4, q5, q6, q7, q8, q9, q10, q11, q12, q13, q14⟩ := mayP_facts hp
  clear hp
  have h0 := rshort_o (n := (fs.length : Int)) (by omega) (s := s ++ [.cells [row fs, .int .i64 mu, row co, row se, row ch, row cho, .int .i64 th]]) (v := vz)
  refine aCalls_go Tryz.func6 rfl (by decide) Tryz.ntmps6 (by simp) true ?_
  have hres : Tryz.f6.results = #[.tmp 2] := rfl
  repeat' (first | with_reducible refine br_t ?_ | with_reducible refine br_f ?_ | with_reducible refine br_dec (fun _ => ?_) (fun _ => ?_) | with_reducible refine g_dec (fun _ => ?_) (fun _ => ?_) | with_reducible refine g_ndec (fun _ => ?_) (fun _ => ?_) | with_reducible refine br_not (fun _ => ?_) (fun _ => ?_) | with_reducible refine br_split (fun _ => ?_) (fun _ => ?_) | with_reducible refine g_not (fun _ => ?_) (fun _ => ?_) | with_reducible refine g_split (fun _ => ?_) (fun _ => ?_) | with_reducible refine px_dec (fun _ => ?_) (fun _ => ?_) | with_reducible refine px_ndec (fun _ => ?_) (fun _ => ?_) | with_reducible refine px_split (fun _ => ?_) (fun _ => ?_) | with_reducible refine aCalls_mono h0 ?_ | simp -implicitDefEqProofs (maxSteps := 2000000) (disch := first | assumption | omega) [*, ])
  rintro _ _ v1 ⟨D, d, rfl, rfl, hlv, hvz⟩
  have hl : LiveN D d (shortB fs.length).length (shortB fs.length) 9 := ⟨⟨hlv, rfl⟩, shortB_le (by omega)⟩
  rw [show (s ++ [AObj.cells [row fs, .int .i64 mu, row co, row se, row ch, row cho, .int .i64 th]]).length + d = s.length + (d + 1) by simp; omega]
  generalize (shortB fs.length).length = n at *
  clear h0 hlv
  repeat' (first | with_reducible refine br_t ?_ | with_reducible refine br_f ?_ | with_reducible refine br_dec (fun _ => ?_) (fun _ => ?_) | with_reducible refine g_dec (fun _ => ?_) (fun _ => ?_) | with_reducible refine g_ndec (fun _ => ?_) (fun _ => ?_) | with_reducible refine br_not (fun _ => ?_) (fun _ => ?_) | with_reducible refine br_split (fun _ => ?_) (fun _ => ?_) | with_reducible refine g_not (fun _ => ?_) (fun _ => ?_) | with_reducible refine g_split (fun _ => ?_) (fun _ => ?_) | with_reducible refine px_dec (fun _ => ?_) (fun _ => ?_) | with_reducible refine px_ndec (fun _ => ?_) (fun _ => ?_) | with_reducible refine px_split (fun _ => ?_) (fun _ => ?_) | simp -implicitDefEqProofs (maxSteps := 2000000) (disch := first | assumption | omega) [*, ])
  refine aW_for (β := List AObj × Nat × Nat × List Nat) true fs.length (fun k p => LiveN p.1 p.2.1 p.2.2.1 (shortB fs.length ++ (fs.take k).flatMap fnB) (9 + 700 * k) ∧ vz <+: p.2.2.2) (fun k p => [(3, .ref 1 (s.length + (p.2.1 + 1)) 0 p.2.2.1 false), (4, .int .i64 k), (12, .any), (13, .any), (14, .any), (15, .any), (16, .any), (19, .any), (20, .any), (21, .any), (22, .any), (23, .any), (5, .any), (24, .any), (25, .any), (26, .any), (27, .any), (28, .any), (29, .any), (30, .any), (31, .any), (32, .any), (33, .any), (34, .any), (6, .any), (35, .any), (36, .any), (37, .any), (38, .any), (39, .any), (42, .any), (43, .any), (44, .any), (45, .any), (46, .any), (47, .any), (48, .any), (49, .any), (50, .any), (51, .any), (52, .any), (53, .any), (54, .any), (55, .any), (56, .any), (57, .any), (58, .any), (59, .any), (60, .any), (40, .any), (41, .any), (17, .any), (18, .any)]) (fun _ p => s ++ (.cells [row fs, .int .i64 mu, row co, row se, row ch, row cho, .int .i64 th] :: p.1)) (fun _ p => p.2.2.2) ?_ ?_
  · exact ⟨(D, d, n, v1), ⟨hl.eq (by simp) (by omega), hvz⟩, by (refine Fits.of ?_ (Off.refl _ _); simp [upd_apply, upds_cons]), by simp, rfl⟩
  rintro k ⟨D, d, n, v⟩ hk ⟨hl, hv⟩
  simp only at hl hv
  by_cases hlt : k < fs.length
  · have e1 := q13 k hlt
    have e2 := q14 k hlt
    have hdl := hl.lt
    have hl := hl.box [.cells [.int .i64 (nth fs k).locals, row (nth fs k).code]]
    repeat' (first | with_reducible refine br_t ?_ | with_reducible refine br_f ?_ | with_reducible refine br_dec (fun _ => ?_) (fun _ => ?_) | with_reducible refine g_dec (fun _ => ?_) (fun _ => ?_) | with_reducible refine g_ndec (fun _ => ?_) (fun _ => ?_) | with_reducible refine br_not (fun _ => ?_) (fun _ => ?_) | with_reducible refine br_split (fun _ => ?_) (fun _ => ?_) | with_reducible refine g_not (fun _ => ?_) (fun _ => ?_) | with_reducible refine g_split (fun _ => ?_) (fun _ => ?_) | with_reducible refine px_dec (fun _ => ?_) (fun _ => ?_) | with_reducible refine px_ndec (fun _ => ?_) (fun _ => ?_) | with_reducible refine px_split (fun _ => ?_) (fun _ => ?_) | with_reducible refine callO (t := 22) (t2 := 22) (by kernel_rfl) (rshort_f (by omega)).pure hl (shortB_ne _) (shortB_le (by omega)) (by omega) (fun v2 D2 d2 n2 hv2 ha hl hdd hk => ?_) | with_reducible refine callO (t := 22) (t2 := 22) (by kernel_rfl) rsigned_f.pure hl (signedB_ne _) signedB_le (by omega) (fun v2 D2 d2 n2 hv2 ha hl hdd hk => ?_) | with_reducible refine callO (t := 22) (t2 := 22) (by kernel_rfl) (rlist_f (by assumption) (by omega)).pure hl (listB_ne _) (listB_le (by assumption) (by omega)) (by omega) (fun v2 D2 d2 n2 hv2 ha hl hdd hk => ?_) | simp -implicitDefEqProofs (maxSteps := 2000000) (disch := first | assumption | omega) [*, ])
    have hF : D2[D.length]? = some (.cells [.int .i64 (nth fs k).locals, row (nth fs k).code]) := by rw [hk _ (by omega) (by simp)]; simp
    have hdl2 : D.length < d2 := by have := hdd.1; simp at this; omega
    have hdl3 := hdd.2
    clear hk hdd ha
    repeat' (first | with_reducible refine br_t ?_ | with_reducible refine br_f ?_ | with_reducible refine br_dec (fun _ => ?_) (fun _ => ?_) | with_reducible refine g_dec (fun _ => ?_) (fun _ => ?_) | with_reducible refine g_ndec (fun _ => ?_) (fun _ => ?_) | with_reducible refine br_not (fun _ => ?_) (fun _ => ?_) | with_reducible refine br_split (fun _ => ?_) (fun _ => ?_) | with_reducible refine g_not (fun _ => ?_) (fun _ => ?_) | with_reducible refine g_split (fun _ => ?_) (fun _ => ?_) | with_reducible refine px_dec (fun _ => ?_) (fun _ => ?_) | with_reducible refine px_ndec (fun _ => ?_) (fun _ => ?_) | with_reducible refine px_split (fun _ => ?_) (fun _ => ?_) | with_reducible refine callO (t := 22) (t2 := 22) (by kernel_rfl) (rshort_f (by omega)).pure hl (shortB_ne _) (shortB_le (by omega)) (by omega) (fun v2 D2 d2 n2 hv2 ha hl hdd hk => ?_) | with_reducible refine callO (t := 22) (t2 := 22) (by kernel_rfl) rsigned_f.pure hl (signedB_ne _) signedB_le (by omega) (fun v2 D2 d2 n2 hv2 ha hl hdd hk => ?_) | with_reducible refine callO (t := 22) (t2 := 22) (by kernel_rfl) (rlist_f (by assumption) (by omega)).pure hl (listB_ne _) (listB_le (by assumption) (by omega)) (by omega) (fun v2 D2 d2 n2 hv2 ha hl hdd hk => ?_) | simp -implicitDefEqProofs (maxSteps := 2000000) (disch := first | assumption | omega) [*, ])
    have hF : D2[D.length]? = some (.cells [.int .i64 (nth fs k).locals, row (nth fs k).code]) := by rw [hk _ (by omega) (by omega)]; exact hF
    have hdl2 : D.length < d2 := by omega
    clear hk hdd ha hdl3
    refine aWl_for (β := List AObj × Nat × Nat × List Nat) true (nth fs k).code.length (fun j p => LiveN p.1 p.2.1 p.2.2.1 (shortB fs.length ++ (fs.take k).flatMap fnB ++ (shortB (nth fs k).locals ++ shortB (nth fs k).code.length ++ ((nth fs k).code.take j).flatMap insB)) (9 + 700 * k + 18 + 10 * j) ∧ vz <+: p.2.2.2 ∧ p.1[D.length]? = some (.cells [.int .i64 (nth fs k).locals, row (nth fs k).code]) ∧ D.length < p.2.1) (fun j p => [(3, .ref 1 (s.length + (p.2.1 + 1)) 0 p.2.2.1 false), (6, .int .i64 j), (35, .any), (36, .any), (37, .any), (38, .any), (39, .any), (42, .any), (43, .any), (44, .any), (45, .any), (46, .any), (47, .any), (48, .any), (49, .any), (50, .any), (51, .any), (52, .any), (53, .any), (54, .any), (55, .any), (56, .any), (57, .any), (58, .any), (59, .any), (60, .any), (40, .any), (41, .any)]) (fun _ p => s ++ (.cells [row fs, .int .i64 mu, row co, row se, row ch, row cho, .int .i64 th] :: p.1)) (fun _ p => p.2.2.2) ?_ ?_
    · exact ⟨(D2, d2, n2, v2), ⟨hl.eq (by simp) (by omega), hv.trans (by first | assumption | exact List.IsPrefix.trans (by assumption) (by assumption)), hF, hdl2⟩, by (refine Fits.of ?_ (Off.refl _ _); simp [upd_apply, upds_cons]), by simp, rfl⟩
    clear hl hF hdl2
    rintro j ⟨D1, d1, n1, v1⟩ hj ⟨hl, hv, hF, hdl2⟩
    simp only at hl hv hF hdl2
    by_cases hjl : j < (nth fs k).code.length
    · obtain ⟨D3, d3, n3, ha3, hl3, hdd3, hk3⟩ := live_push (P := Tryz.prog) (t := 22) (t2 := 22) (by kernel_rfl) s (.cells [row fs, .int .i64 mu, row co, row se, row ch, row cho, .int .i64 th]) hl (l2 := [UInt8.ofInt (nth (nth fs k).code j).op]) (B2 := 1) (by simp) (by simp) (by omega)
      have hu1 := u8_op (nth (nth fs k).code j).op
      have ha3 := fun r => ha3 (.imm 1 1 [.int .u8 ((UInt8.ofInt (nth (nth fs k).code j).op).toNat : Int)] r) (by simp [aCells, rowCs_cons])
      obtain ⟨z, hz⟩ : ∃ z : Int, z = ((UInt8.ofInt (nth (nth fs k).code j).op).toNat : Int) := ⟨_, rfl⟩
      rw [← hz] at hu1 ha3
      clear hz
      have hlt1 := hl.lt
      have hF3 : D3[D.length]? = some (.cells [.int .i64 (nth fs k).locals, row (nth fs k).code]) := by rw [hk3 _ (by omega) (by omega)]; exact hF
      have hdl3 : D.length < d3 := by omega
      have hdl4 := hdd3.2
      clear hk3 hdd3 hl
      have hl := hl3
      clear hl3
      repeat' (first | with_reducible refine br_t ?_ | with_reducible refine br_f ?_ | with_reducible refine br_dec (fun _ => ?_) (fun _ => ?_) | with_reducible refine g_dec (fun _ => ?_) (fun _ => ?_) | with_reducible refine g_ndec (fun _ => ?_) (fun _ => ?_) | with_reducible refine br_not (fun _ => ?_) (fun _ => ?_) | with_reducible refine br_split (fun _ => ?_) (fun _ => ?_) | with_reducible refine g_not (fun _ => ?_) (fun _ => ?_) | with_reducible refine g_split (fun _ => ?_) (fun _ => ?_) | with_reducible refine px_dec (fun _ => ?_) (fun _ => ?_) | with_reducible refine px_ndec (fun _ => ?_) (fun _ => ?_) | with_reducible refine px_split (fun _ => ?_) (fun _ => ?_) | with_reducible refine callO (t := 22) (t2 := 22) (by kernel_rfl) (rshort_f (by omega)).pure hl (shortB_ne _) (shortB_le (by omega)) (by omega) (fun v2 D2 d2 n2 hv2 ha hl hdd hk => ?_) | with_reducible refine callO (t := 22) (t2 := 22) (by kernel_rfl) rsigned_f.pure hl (signedB_ne _) signedB_le (by omega) (fun v2 D2 d2 n2 hv2 ha hl hdd hk => ?_) | with_reducible refine callO (t := 22) (t2 := 22) (by kernel_rfl) (rlist_f (by assumption) (by omega)).pure hl (listB_ne _) (listB_le (by assumption) (by omega)) (by omega) (fun v2 D2 d2 n2 hv2 ha hl hdd hk => ?_) | simp -implicitDefEqProofs (maxSteps := 2000000) (disch := first | assumption | omega) [*, ])
      have hF4 : D2[D.length]? = some (.cells [.int .i64 (nth fs k).locals, row (nth fs k).code]) := by rw [hk _ (by omega) (by omega)]; exact hF3
      exact ⟨hjl, (_, _, _, _), ⟨hl.eq (by simp [take_succ_nth hjl, insB]) (by omega), hv.trans hv2, hF4, (by show D.length < d2; omega)⟩, by (refine Fits.of ?_ ?_; rotate_left; (repeat (first | with_reducible exact Off.refl _ _ | refine Off.upd rfl ?_ | refine Off.updO rfl ?_ | refine Off.upds rfl ?_)); simp [upd_apply, upds_cons]), rfl, rfl⟩
    · have : j = (nth fs k).code.length := by omega
      subst this
      repeat' (first | with_reducible refine br_t ?_ | with_reducible refine br_f ?_ | with_reducible refine br_dec (fun _ => ?_) (fun _ => ?_) | with_reducible refine g_dec (fun _ => ?_) (fun _ => ?_) | with_reducible refine g_ndec (fun _ => ?_) (fun _ => ?_) | with_reducible refine br_not (fun _ => ?_) (fun _ => ?_) | with_reducible refine br_split (fun _ => ?_) (fun _ => ?_) | with_reducible refine g_not (fun _ => ?_) (fun _ => ?_) | with_reducible refine g_split (fun _ => ?_) (fun _ => ?_) | with_reducible refine px_dec (fun _ => ?_) (fun _ => ?_) | with_reducible refine px_ndec (fun _ => ?_) (fun _ => ?_) | with_reducible refine px_split (fun _ => ?_) (fun _ => ?_) | simp -implicitDefEqProofs (maxSteps := 2000000) (disch := first | assumption | omega) [*, ])
      exact ⟨hlt, (_, _, _, _), ⟨hl.eq (by simp [take_succ_nth hlt, fnB]) (by omega), hv⟩, by (refine Fits.of ?_ ?_; rotate_left; (repeat (first | with_reducible exact Off.refl _ _ | refine Off.upd rfl ?_ | refine Off.updO rfl ?_ | refine Off.upds rfl ?_)); simp [upd_apply, upds_cons]), rfl, rfl⟩
  · have : k = fs.length := by omega
    subst this
    repeat' (first | with_reducible refine br_t ?_ | with_reducible refine br_f ?_ | with_reducible refine br_dec (fun _ => ?_) (fun _ => ?_) | with_reducible refine g_dec (fun _ => ?_) (fun _ => ?_) | with_reducible refine g_ndec (fun _ => ?_) (fun _ => ?_) | with_reducible refine br_not (fun _ => ?_) (fun _ => ?_) | with_reducible refine br_split (fun _ => ?_) (fun _ => ?_) | with_reducible refine g_not (fun _ => ?_) (fun _ => ?_) | with_reducible refine g_split (fun _ => ?_) (fun _ => ?_) | with_reducible refine px_dec (fun _ => ?_) (fun _ => ?_) | with_reducible refine px_ndec (fun _ => ?_) (fun _ => ?_) | with_reducible refine px_split (fun _ => ?_) (fun _ => ?_) | with_reducible refine callO (t := 22) (t2 := 22) (by kernel_rfl) (rshort_f (by omega)).pure hl (shortB_ne _) (shortB_le (by omega)) (by omega) (fun v2 D2 d2 n2 hv2 ha hl hdd hk => ?_) | with_reducible refine callO (t := 22) (t2 := 22) (by kernel_rfl) rsigned_f.pure hl (signedB_ne _) signedB_le (by omega) (fun v2 D2 d2 n2 hv2 ha hl hdd hk => ?_) | with_reducible refine callO (t := 22) (t2 := 22) (by kernel_rfl) (rlist_f (by assumption) (by omega)).pure hl (listB_ne _) (listB_le (by assumption) (by omega)) (by omega) (fun v2 D2 d2 n2 hv2 ha hl hdd hk => ?_) | simp -implicitDefEqProofs (maxSteps := 2000000) (disch := first | assumption | omega) [*, ])
    obtain ⟨B, hB, hl⟩ : ∃ B, B ≤ 12000 ∧ LiveN D2 d2 n2 (shortB fs.length ++ fs.flatMap fnB ++ shortB mu ++ listB co ++ listB se ++ listB ch ++ shortB cho.length) B := ⟨_, by omega, hl.eq (by simp) (Nat.le_refl _)⟩
    have hvv : vz <+: v2 := by
      refine hv.trans ?_
      first | assumption | exact List.IsPrefix.trans (by assumption) (by assumption) | (refine List.IsPrefix.trans (by assumption) (List.IsPrefix.trans (by assumption) (List.IsPrefix.trans (by assumption) (List.IsPrefix.trans (by assumption) (by assumption)))))
    refine aW_for (β := List AObj × Nat × Nat × List Nat) true cho.length (fun k p => LiveN p.1 p.2.1 p.2.2.1 (shortB fs.length ++ fs.flatMap fnB ++ shortB mu ++ listB co ++ listB se ++ listB ch ++ (shortB cho.length ++ (cho.take k).flatMap listB)) (B + 90 * k) ∧ vz <+: p.2.2.2) (fun k p => [(3, .ref 1 (s.length + (p.2.1 + 1)) 0 p.2.2.1 false), (7, .int .i64 k), (87, .any), (88, .any), (89, .any), (90, .any), (91, .any), (94, .any), (95, .any), (96, .any), (97, .any), (98, .any), (99, .any), (100, .any), (101, .any), (92, .any), (93, .any)]) (fun _ p => s ++ (.cells [row fs, .int .i64 mu, row co, row se, row ch, row cho, .int .i64 th] :: p.1)) (fun _ p => p.2.2.2) ?_ ?_
    · exact ⟨(_, _, _, _), ⟨hl.eq (by simp) (by omega), hvv⟩, by (refine Fits.of ?_ (Off.refl _ _); simp [upd_apply, upds_cons]), rfl, rfl⟩
    clear hl
    rintro k ⟨D, d, n, v⟩ hk ⟨hl, hv⟩
    simp only at hl hv
    by_cases hlt : k < cho.length
    · have e1 := q11 k hlt
      have e2 := q12 k hlt
      repeat' (first | with_reducible refine br_t ?_ | with_reducible refine br_f ?_ | with_reducible refine br_dec (fun _ => ?_) (fun _ => ?_) | with_reducible refine g_dec (fun _ => ?_) (fun _ => ?_) | with_reducible refine g_ndec (fun _ => ?_) (fun _ => ?_) | with_reducible refine br_not (fun _ => ?_) (fun _ => ?_) | with_reducible refine br_split (fun _ => ?_) (fun _ => ?_) | with_reducible refine g_not (fun _ => ?_) (fun _ => ?_) | with_reducible refine g_split (fun _ => ?_) (fun _ => ?_) | with_reducible refine px_dec (fun _ => ?_) (fun _ => ?_) | with_reducible refine px_ndec (fun _ => ?_) (fun _ => ?_) | with_reducible refine px_split (fun _ => ?_) (fun _ => ?_) | with_reducible refine callO (t := 22) (t2 := 22) (by kernel_rfl) (rshort_f (by omega)).pure hl (shortB_ne _) (shortB_le (by omega)) (by omega) (fun v2 D2 d2 n2 hv2 ha hl hdd hk => ?_) | with_reducible refine callO (t := 22) (t2 := 22) (by kernel_rfl) rsigned_f.pure hl (signedB_ne _) signedB_le (by omega) (fun v2 D2 d2 n2 hv2 ha hl hdd hk => ?_) | with_reducible refine callO (t := 22) (t2 := 22) (by kernel_rfl) (rlist_f (by assumption) (by omega)).pure hl (listB_ne _) (listB_le (by assumption) (by omega)) (by omega) (fun v2 D2 d2 n2 hv2 ha hl hdd hk => ?_) | simp -implicitDefEqProofs (maxSteps := 2000000) (disch := first | assumption | omega) [*, ])
      exact ⟨hlt, (_, _, _, _), ⟨hl.eq (by simp [take_succ_nth hlt]) (by omega), hv.trans hv2⟩, by (refine Fits.of ?_ ?_; rotate_left; (repeat (first | with_reducible exact Off.refl _ _ | refine Off.upd rfl ?_ | refine Off.updO rfl ?_ | refine Off.upds rfl ?_)); simp [upd_apply, upds_cons]), rfl, rfl⟩
    · have : k = cho.length := by omega
      subst this
      repeat' (first | with_reducible refine br_t ?_ | with_reducible refine br_f ?_ | with_reducible refine br_dec (fun _ => ?_) (fun _ => ?_) | with_reducible refine g_dec (fun _ => ?_) (fun _ => ?_) | with_reducible refine g_ndec (fun _ => ?_) (fun _ => ?_) | with_reducible refine br_not (fun _ => ?_) (fun _ => ?_) | with_reducible refine br_split (fun _ => ?_) (fun _ => ?_) | with_reducible refine g_not (fun _ => ?_) (fun _ => ?_) | with_reducible refine g_split (fun _ => ?_) (fun _ => ?_) | with_reducible refine px_dec (fun _ => ?_) (fun _ => ?_) | with_reducible refine px_ndec (fun _ => ?_) (fun _ => ?_) | with_reducible refine px_split (fun _ => ?_) (fun _ => ?_) | with_reducible refine callO (t := 22) (t2 := 22) (by kernel_rfl) (rshort_f (by omega)).pure hl (shortB_ne _) (shortB_le (by omega)) (by omega) (fun v2 D2 d2 n2 hv2 ha hl hdd hk => ?_) | with_reducible refine callO (t := 22) (t2 := 22) (by kernel_rfl) rsigned_f.pure hl (signedB_ne _) signedB_le (by omega) (fun v2 D2 d2 n2 hv2 ha hl hdd hk => ?_) | with_reducible refine callO (t := 22) (t2 := 22) (by kernel_rfl) (rlist_f (by assumption) (by omega)).pure hl (listB_ne _) (listB_le (by assumption) (by omega)) (by omega) (fun v2 D2 d2 n2 hv2 ha hl hdd hk => ?_) | simp -implicitDefEqProofs (maxSteps := 2000000) (disch := first | assumption | omega) [*, ])
      obtain ⟨⟨⟨g1, g2⟩, g3⟩, g4⟩ := hl
      have e : shortB fs.length ++ fs.flatMap fnB ++ shortB mu ++ listB co ++ listB se ++ listB ch ++ (shortB cho.length ++ (cho.take cho.length).flatMap listB) ++ shortB th = writeP ⟨fs, mu, co, se, ch, cho, th⟩ := by simp [writeP]
      rw [e] at g1 g2 g3
      rw [← g3]
      exact ⟨_, _, rfl, rfl, ⟨by rw [List.getElem?_cons_succ]; exact g1, g2⟩, hv.trans hv2⟩
end Go.Hb
