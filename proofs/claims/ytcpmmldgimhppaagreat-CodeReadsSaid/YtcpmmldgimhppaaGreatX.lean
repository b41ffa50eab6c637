/-
  A layer for reasoning about the program's calls, and contracts of its functions (X). CONDITIONS: none; each theorem bears its own.
-/
import Derived.Test.YtcpmmldgimhppaaGreatK
set_option linter.unusedVariables false
set_option linter.unusedSimpArgs false
section
namespace Go.Hb
open Go Go.Proofs Go.RowKit
set_option maxRecDepth 100000
set_option maxHeartbeats 800000
attribute [-simp] aC aL aOper aThen aInBlock aIf aPlan aAppend aLen aIndexAddr aSlice aCells aBounds lBr aq initT aev aAppendOwn aAppendNil aAppendNew aAppendRef LV.cells LV.cellsOk getElem?_pos getElem?_neg

theorem rshort_f {n : Int} (hn : n ≤ 9223372036854775807) : Fresh Tryz.prog 17 [.int .i64 n] (shortB n) := by
  refine .of fun s v => ?_
  have hlen := shortB_len hn
  obtain ⟨m, hm⟩ : ∃ m : Nat, m = n.toNat := ⟨_, rfl⟩
  have hsb : shortB n = shortN m := by unfold shortB; rw [hm]
  rw [hsb] at hlen ⊢
  obtain ⟨y, hy1, hy2, hy3⟩ : ∃ y : Int, (n < 0 → y = 0) ∧ (0 ≤ n → y = n) ∧ y = m := ⟨m, by omega, by omega, rfl⟩
  refine aCalls_go Tryz.func17 rfl (by decide) Tryz.ntmps17 (by simp) false ?_
  have hres : Tryz.f17.results = #[.tmp 2] := rfl
  repeat' (first | with_reducible refine br_t ?_ | with_reducible refine br_f ?_ | with_reducible refine br_dec (fun _ => ?_) (fun _ => ?_) | with_reducible refine g_dec (fun _ => ?_) (fun _ => ?_) | with_reducible refine g_ndec (fun _ => ?_) (fun _ => ?_) | with_reducible refine br_not (fun _ => ?_) (fun _ => ?_) | with_reducible refine br_split (fun _ => ?_) (fun _ => ?_) | with_reducible refine g_not (fun _ => ?_) (fun _ => ?_) | with_reducible refine g_split (fun _ => ?_) (fun _ => ?_) | with_reducible refine px_dec (fun _ => ?_) (fun _ => ?_) | with_reducible refine px_ndec (fun _ => ?_) (fun _ => ?_) | with_reducible refine px_split (fun _ => ?_) (fun _ => ?_) | simp -implicitDefEqProofs (maxSteps := 2000000) (disch := first | assumption | omega) [*, ])
  all_goals
    refine aW_fall (β := Nat × LV × List UInt8 × List Nat) false (fun p => p.2.2.1 ++ shortN p.1 = shortN m ∧ GroE v p.2.2.2 p.2.2.1 p.2.1 ∧ p.1 ≤ 9223372036854775807) (fun p => p.1) (fun p => [(0, .int .i64 p.1), (3, p.2.1), (6, .any), (7, .any), (8, .any), (9, .any), (10, .any), (11, .any), (12, .any), (13, .any), (14, .any), (15, .any), (16, .any)]) (fun p => s) (fun p => p.2.2.2) ?_ ?_
    · refine ⟨(m, .nils, [], v), ⟨by simp, GroE.nil _, by show m ≤ _; omega⟩, ?_, rfl, rfl⟩
      (refine Fits.of ?_ (Off.refl _ _); simp [upd_apply, upds_cons])
      omega
    rintro ⟨q, x, cs, v1⟩ ⟨he, hx, hq⟩
    simp only at he hx hq
    have hxc := hx.gro.cells
    have hcl : cs.length + (shortN q).length ≤ 9 := by
      have := congrArg List.length he
      simp only [List.length_append] at this
      omega
    by_cases h128 : q < 128
    · have hsq : shortN q = [UInt8.ofNat q] := by rw [shortN]; simp [h128]
      rw [hsq] at he hcl
      simp only [List.length_cons, List.length_nil] at hcl
      obtain ⟨x', v', hx', _, ha⟩ := GroE.push (P := Tryz.prog) (t := 22) (t2 := 22) (sz := 1) (by_ := 1) (by kernel_rfl) rfl (by omega) hx (UInt8.ofNat q) (by omega)
      simp only [enc_u8] at ha
      have hxc' := hx'.gro.cells
      obtain ⟨z, hz⟩ : ∃ z : Int, z = ((UInt8.ofNat q).toNat : Int) := ⟨_, rfl⟩
      obtain ⟨hz1, hz2⟩ := u8_z hz
      rw [← hz] at ha
      clear hz
      repeat' (first | with_reducible refine br_t ?_ | with_reducible refine br_f ?_ | with_reducible refine br_dec (fun _ => ?_) (fun _ => ?_) | with_reducible refine g_dec (fun _ => ?_) (fun _ => ?_) | with_reducible refine g_ndec (fun _ => ?_) (fun _ => ?_) | with_reducible refine br_not (fun _ => ?_) (fun _ => ?_) | with_reducible refine br_split (fun _ => ?_) (fun _ => ?_) | with_reducible refine g_not (fun _ => ?_) (fun _ => ?_) | with_reducible refine g_split (fun _ => ?_) (fun _ => ?_) | with_reducible refine px_dec (fun _ => ?_) (fun _ => ?_) | with_reducible refine px_ndec (fun _ => ?_) (fun _ => ?_) | with_reducible refine px_split (fun _ => ?_) (fun _ => ?_) | simp -implicitDefEqProofs (maxSteps := 2000000) (disch := first | assumption | omega) [*, ])
      all_goals first | (exfalso; omega) | skip
      rw [← hm, ← he]; exact hx'.gro
    · have hsq : shortN q = UInt8.ofNat (128 + q % 128) :: shortN (q / 128) := by rw [shortN]; simp [h128]
      rw [hsq] at he hcl
      obtain ⟨x', v', hx', _, ha⟩ := GroE.push (P := Tryz.prog) (t := 22) (t2 := 22) (sz := 1) (by_ := 1) (by kernel_rfl) rfl (by omega) hx (UInt8.ofNat (128 + q % 128)) (by simp at hcl; omega)
      simp only [enc_u8] at ha
      have hxc' := hx'.gro.cells
      obtain ⟨z, hz⟩ : ∃ z : Int, z = ((UInt8.ofNat (128 + q % 128)).toNat : Int) := ⟨_, rfl⟩
      have ht : (q : Int).tmod 128 = ((q % 128 : Nat) : Int) := by rw [Int.tmod_eq_emod_of_nonneg (by omega)]; omega
      have htd : (q : Int).tdiv 128 = ((q / 128 : Nat) : Int) := by rw [Int.tdiv_eq_ediv_of_nonneg (by omega)]; omega
      have hz1 : IntKind.u8.wrap (128 + ((q % 128 : Nat) : Int)) = z := by
        have := (u8_z hz).1
        rw [← this]; congr 1
      have hz2 : IntKind.u8.wrap (128 + (q : Int) % 128) = z := by
        rw [← hz1]; congr 1
      rw [← hz] at ha
      clear hz
      repeat' (first | with_reducible refine br_t ?_ | with_reducible refine br_f ?_ | with_reducible refine br_dec (fun _ => ?_) (fun _ => ?_) | with_reducible refine g_dec (fun _ => ?_) (fun _ => ?_) | with_reducible refine g_ndec (fun _ => ?_) (fun _ => ?_) | with_reducible refine br_not (fun _ => ?_) (fun _ => ?_) | with_reducible refine br_split (fun _ => ?_) (fun _ => ?_) | with_reducible refine g_not (fun _ => ?_) (fun _ => ?_) | with_reducible refine g_split (fun _ => ?_) (fun _ => ?_) | with_reducible refine px_dec (fun _ => ?_) (fun _ => ?_) | with_reducible refine px_ndec (fun _ => ?_) (fun _ => ?_) | with_reducible refine px_split (fun _ => ?_) (fun _ => ?_) | simp -implicitDefEqProofs (maxSteps := 2000000) (disch := first | assumption | omega) [*, ])
      all_goals first | (exfalso; omega) | skip
      refine ⟨(q / 128, x', cs ++ [UInt8.ofNat (128 + q % 128)], v'), by show q / 128 < q; omega, ⟨by simpa using he, hx', by show q / 128 ≤ _; omega⟩, ?_, rfl, rfl⟩
      (refine Fits.of ?_ ?_; rotate_left; (repeat (first | with_reducible exact Off.refl _ _ | refine Off.upd rfl ?_ | refine Off.updO rfl ?_ | refine Off.upds rfl ?_)); simp [upd_apply, upds_cons])
theorem rsigned_f {n : Int} : Fresh Tryz.prog 18 [.int .i64 n] (signedB n) := by
  refine .of fun s v => ?_
  by_cases h1 : n < -2305843009213693952
  · have hsb : signedB n = shortB 4611686018427387903 := by unfold signedB; simp [h1]
    rw [hsb]
    refine aCalls_go Tryz.func18 rfl (by decide) Tryz.ntmps18 (by simp) false ?_
    have hres : Tryz.f18.results = #[.tmp 2] := rfl
    repeat' (first | with_reducible refine br_t ?_ | with_reducible refine br_f ?_ | with_reducible refine br_dec (fun _ => ?_) (fun _ => ?_) | with_reducible refine g_dec (fun _ => ?_) (fun _ => ?_) | with_reducible refine g_ndec (fun _ => ?_) (fun _ => ?_) | with_reducible refine br_not (fun _ => ?_) (fun _ => ?_) | with_reducible refine br_split (fun _ => ?_) (fun _ => ?_) | with_reducible refine g_not (fun _ => ?_) (fun _ => ?_) | with_reducible refine g_split (fun _ => ?_) (fun _ => ?_) | with_reducible refine px_dec (fun _ => ?_) (fun _ => ?_) | with_reducible refine px_ndec (fun _ => ?_) (fun _ => ?_) | with_reducible refine px_split (fun _ => ?_) (fun _ => ?_) | with_reducible refine callF (rshort_f (by omega)) (fun x v hx => ?_) | simp -implicitDefEqProofs (maxSteps := 2000000) (disch := first | assumption | omega) [*, ])
    all_goals first | (exfalso; omega) | exact ⟨⟨[], by simp⟩, hx⟩
  by_cases h2 : 2305843009213693951 < n
  · have hsb : signedB n = shortB 4611686018427387902 := by unfold signedB; simp [h1, h2]
    rw [hsb]
    refine aCalls_go Tryz.func18 rfl (by decide) Tryz.ntmps18 (by simp) false ?_
    have hres : Tryz.f18.results = #[.tmp 2] := rfl
    repeat' (first | with_reducible refine br_t ?_ | with_reducible refine br_f ?_ | with_reducible refine br_dec (fun _ => ?_) (fun _ => ?_) | with_reducible refine g_dec (fun _ => ?_) (fun _ => ?_) | with_reducible refine g_ndec (fun _ => ?_) (fun _ => ?_) | with_reducible refine br_not (fun _ => ?_) (fun _ => ?_) | with_reducible refine br_split (fun _ => ?_) (fun _ => ?_) | with_reducible refine g_not (fun _ => ?_) (fun _ => ?_) | with_reducible refine g_split (fun _ => ?_) (fun _ => ?_) | with_reducible refine px_dec (fun _ => ?_) (fun _ => ?_) | with_reducible refine px_ndec (fun _ => ?_) (fun _ => ?_) | with_reducible refine px_split (fun _ => ?_) (fun _ => ?_) | with_reducible refine callF (rshort_f (by omega)) (fun x v hx => ?_) | simp -implicitDefEqProofs (maxSteps := 2000000) (disch := first | assumption | omega) [*, ])
    all_goals first | (exfalso; omega) | exact ⟨⟨[], by simp⟩, hx⟩
  by_cases h3 : n < 0
  · have hsb : signedB n = shortB (2 * -(n + 1) + 1) := by unfold signedB; simp [h1, h2, h3]
    rw [hsb]
    refine aCalls_go Tryz.func18 rfl (by decide) Tryz.ntmps18 (by simp) false ?_
    have hres : Tryz.f18.results = #[.tmp 2] := rfl
    repeat' (first | with_reducible refine br_t ?_ | with_reducible refine br_f ?_ | with_reducible refine br_dec (fun _ => ?_) (fun _ => ?_) | with_reducible refine g_dec (fun _ => ?_) (fun _ => ?_) | with_reducible refine g_ndec (fun _ => ?_) (fun _ => ?_) | with_reducible refine br_not (fun _ => ?_) (fun _ => ?_) | with_reducible refine br_split (fun _ => ?_) (fun _ => ?_) | with_reducible refine g_not (fun _ => ?_) (fun _ => ?_) | with_reducible refine g_split (fun _ => ?_) (fun _ => ?_) | with_reducible refine px_dec (fun _ => ?_) (fun _ => ?_) | with_reducible refine px_ndec (fun _ => ?_) (fun _ => ?_) | with_reducible refine px_split (fun _ => ?_) (fun _ => ?_) | with_reducible refine callF (rshort_f (by omega)) (fun x v hx => ?_) | simp -implicitDefEqProofs (maxSteps := 2000000) (disch := first | assumption | omega) [*, ])
    all_goals first | (exfalso; omega) | exact ⟨⟨[], by simp⟩, hx⟩
  · have hsb : signedB n = shortB (2 * n) := by unfold signedB; simp [h1, h2, h3]
    rw [hsb]
    refine aCalls_go Tryz.func18 rfl (by decide) Tryz.ntmps18 (by simp) false ?_
    have hres : Tryz.f18.results = #[.tmp 2] := rfl
    repeat' (first | with_reducible refine br_t ?_ | with_reducible refine br_f ?_ | with_reducible refine br_dec (fun _ => ?_) (fun _ => ?_) | with_reducible refine g_dec (fun _ => ?_) (fun _ => ?_) | with_reducible refine g_ndec (fun _ => ?_) (fun _ => ?_) | with_reducible refine br_not (fun _ => ?_) (fun _ => ?_) | with_reducible refine br_split (fun _ => ?_) (fun _ => ?_) | with_reducible refine g_not (fun _ => ?_) (fun _ => ?_) | with_reducible refine g_split (fun _ => ?_) (fun _ => ?_) | with_reducible refine px_dec (fun _ => ?_) (fun _ => ?_) | with_reducible refine px_ndec (fun _ => ?_) (fun _ => ?_) | with_reducible refine px_split (fun _ => ?_) (fun _ => ?_) | with_reducible refine callF (rshort_f (by omega)) (fun x v hx => ?_) | simp -implicitDefEqProofs (maxSteps := 2000000) (disch := first | assumption | omega) [*, ])
    all_goals first | (exfalso; omega) | exact ⟨⟨[], by simp⟩, hx⟩
end Go.Hb
end

section
namespace Go.Hb
open Go Go.Proofs Go.RowKit
set_option maxRecDepth 100000
set_option maxHeartbeats 800000
attribute [-simp] aC aL aOper aThen aInBlock aIf aPlan aAppend aLen aIndexAddr aSlice aCells aBounds lBr aq initT aev aAppendOwn aAppendNil aAppendNew aAppendRef LV.cells LV.cellsOk getElem?_pos getElem?_neg

theorem callG {α : Type} [Enc α] {P : Program} {t t2 : TypeId} {by_ : Nat} (hok : appOk P t t2 (Enc.sz α) by_ = true) (hby : by_ ≤ 1000) {f : FuncId} {args : List LV} {s : List AObj} {v0 v : List Nat} {l l2 : List α} {x : LV} {B B2 : Nat} {K : LV → List AObj → List Nat → Prop}
    (h : PureC P f args (row l2)) (hx : Gro v0 v l x ∧ l.length ≤ B) (hl : l2.length ≤ B2) (b : B + B2 ≤ 90000000)
    (k : ∀ v2 x' v', (Gro v0 v' (l ++ l2) x' ∧ (l ++ l2).length ≤ B + B2) → (∀ s, aAppend P t t2 x (row l2) s v2 = some (x', v')) → (x'.cells = [x'] ∧ x'.cellsOk = true) → K (row l2) s v2) : aCalls P f args s v K :=
  callC h fun v2 hv2 => by
    have h1 := hx.2
    obtain ⟨x', v', e1, _, e2⟩ := Gro.appr (P := P) (t := t) (t2 := t2) hok hby (hx.1.mono hv2) l2 (by omega)
    exact k v2 x' v' ⟨e1, by rw [List.length_append]; omega⟩ e2 e1.cells
theorem gro_eq {α : Type} [Enc α] {v0 v : List Nat} {l l' : List α} {x : LV} {B B' : Nat} (h : Gro v0 v l x ∧ l.length ≤ B) (e : l = l') (hb : B ≤ B') : Gro v0 v l' x ∧ l'.length ≤ B' := by subst e; exact ⟨h.1, Nat.le_trans h.2 hb⟩
theorem shortB_le {n : Int} (h : n ≤ 9223372036854775807) : (shortB n).length ≤ 9 := shortB_len h

theorem rlist_f {l : List Int} (hl : ∀ k < l.length, nth l k ≤ 9223372036854775807) (hll : l.length ≤ 1000) : Fresh Tryz.prog 19 [row l] (listB l) := by
  refine .of fun s v => ?_
  refine aCalls_go Tryz.func19 rfl (by decide) Tryz.ntmps19 (by simp) false ?_
  have hres : Tryz.f19.results = #[.tmp 2] := rfl
  repeat' (first | with_reducible refine br_t ?_ | with_reducible refine br_f ?_ | with_reducible refine br_dec (fun _ => ?_) (fun _ => ?_) | with_reducible refine g_dec (fun _ => ?_) (fun _ => ?_) | with_reducible refine g_ndec (fun _ => ?_) (fun _ => ?_) | with_reducible refine br_not (fun _ => ?_) (fun _ => ?_) | with_reducible refine br_split (fun _ => ?_) (fun _ => ?_) | with_reducible refine g_not (fun _ => ?_) (fun _ => ?_) | with_reducible refine g_split (fun _ => ?_) (fun _ => ?_) | with_reducible refine px_dec (fun _ => ?_) (fun _ => ?_) | with_reducible refine px_ndec (fun _ => ?_) (fun _ => ?_) | with_reducible refine px_split (fun _ => ?_) (fun _ => ?_) | with_reducible refine callF (rshort_f (by omega)) (fun x v1 hx => ?_) | simp -implicitDefEqProofs (maxSteps := 2000000) (disch := first | assumption | omega) [*, ])
  have hx : Gro v v1 (shortB l.length) x ∧ (shortB l.length).length ≤ 9 := ⟨hx, shortB_le (by omega)⟩
  refine aW_for (β := LV × List Nat) false l.length (fun k p => Gro v p.2 (shortB l.length ++ (l.take k).flatMap shortB) p.1 ∧ (shortB l.length ++ (l.take k).flatMap shortB).length ≤ 9 + 9 * k) (fun k p => [(3, p.1), (4, .int .i64 k), (8, .any), (9, .any), (10, .any), (11, .any), (14, .any), (15, .any), (16, .any), (17, .any), (18, .any), (19, .any), (20, .any), (12, .any), (13, .any)]) (fun _ _ => s) (fun _ p => p.2) ?_ ?_
  · exact ⟨(x, v1), gro_eq hx (by simp) (by omega), by (refine Fits.of ?_ (Off.refl _ _); simp [upd_apply, upds_cons]), rfl, rfl⟩
  rintro k ⟨x, v⟩ hk hx
  simp only at hx
  have hxc := hx.1.cells
  by_cases hlt : k < l.length
  · have hn := hl k hlt
    repeat' (first | with_reducible refine br_t ?_ | with_reducible refine br_f ?_ | with_reducible refine br_dec (fun _ => ?_) (fun _ => ?_) | with_reducible refine g_dec (fun _ => ?_) (fun _ => ?_) | with_reducible refine g_ndec (fun _ => ?_) (fun _ => ?_) | with_reducible refine br_not (fun _ => ?_) (fun _ => ?_) | with_reducible refine br_split (fun _ => ?_) (fun _ => ?_) | with_reducible refine g_not (fun _ => ?_) (fun _ => ?_) | with_reducible refine g_split (fun _ => ?_) (fun _ => ?_) | with_reducible refine px_dec (fun _ => ?_) (fun _ => ?_) | with_reducible refine px_ndec (fun _ => ?_) (fun _ => ?_) | with_reducible refine px_split (fun _ => ?_) (fun _ => ?_) | with_reducible refine callG (P := Tryz.prog) (t := 22) (t2 := 22) (by_ := 1) (by kernel_rfl) (by omega) (rshort_f (by omega)).pure hx (shortB_le (by omega)) (by omega) (fun v2 x v hx ha hxc => ?_) | simp -implicitDefEqProofs (maxSteps := 2000000) (disch := first | assumption | omega) [*, ])
    exact ⟨hlt, (x, v), gro_eq hx (by simp [take_succ_nth hlt]) (by omega), by (refine Fits.of ?_ ?_; rotate_left; (repeat (first | with_reducible exact Off.refl _ _ | refine Off.upd rfl ?_ | refine Off.updO rfl ?_ | refine Off.upds rfl ?_)); simp [upd_apply, upds_cons]), rfl, rfl⟩
  · have : k = l.length := by omega
    subst this
    repeat' (first | with_reducible refine br_t ?_ | with_reducible refine br_f ?_ | with_reducible refine br_dec (fun _ => ?_) (fun _ => ?_) | with_reducible refine g_dec (fun _ => ?_) (fun _ => ?_) | with_reducible refine g_ndec (fun _ => ?_) (fun _ => ?_) | with_reducible refine br_not (fun _ => ?_) (fun _ => ?_) | with_reducible refine br_split (fun _ => ?_) (fun _ => ?_) | with_reducible refine g_not (fun _ => ?_) (fun _ => ?_) | with_reducible refine g_split (fun _ => ?_) (fun _ => ?_) | with_reducible refine px_dec (fun _ => ?_) (fun _ => ?_) | with_reducible refine px_ndec (fun _ => ?_) (fun _ => ?_) | with_reducible refine px_split (fun _ => ?_) (fun _ => ?_) | simp -implicitDefEqProofs (maxSteps := 2000000) (disch := first | assumption | omega) [*, ])
    simpa [listB] using hx.1
end Go.Hb
end

section
namespace Go.Hb
open Go Go.Proofs Go.RowKit
set_option maxRecDepth 100000
set_option maxHeartbeats 800000
attribute [-simp] aC aL aOper aThen aInBlock aIf aPlan aAppend aLen aIndexAddr aSlice aCells aBounds lBr aq initT aev aAppendOwn aAppendNil aAppendNew aAppendRef LV.cells LV.cellsOk getElem?_pos getElem?_neg

theorem mayP_facts {fs : List Fn_} {mu th : Int} {co se ch : List Int} {cho : List (List Int)} (hp : mayP ⟨fs, mu, co, se, ch, cho, th⟩ = true) : fs.length ≤ 16 ∧ mu ≤ 8 ∧ co.length ≤ 8 ∧ se.length ≤ 8 ∧ ch.length ≤ 8 ∧ cho.length ≤ 8 ∧ th ≤ 32 ∧ (∀ k < co.length, nth co k ≤ 9223372036854775807) ∧ (∀ k < se.length, nth se k ≤ 9223372036854775807) ∧ (∀ k < ch.length, nth ch k ≤ 9223372036854775807) ∧ (∀ k < cho.length, (nth cho k).length ≤ 8) ∧ (∀ k < cho.length, ∀ j < (nth cho k).length, nth (nth cho k) j ≤ 9223372036854775807) ∧ (∀ k < fs.length, (nth fs k).locals ≤ 8) ∧ (∀ k < fs.length, (nth fs k).code.length ≤ 64) := by
  unfold mayP at hp
  simp only [Bool.and_eq_true, decide_eq_true_eq] at hp
  obtain ⟨⟨⟨⟨⟨⟨⟨⟨⟨⟨⟨⟨⟨⟨p1, p2⟩, p3⟩, p4⟩, p5⟩, p6⟩, p7⟩, p8⟩, p9⟩, p10⟩, p11⟩, p12⟩, p13⟩, p14⟩, p15⟩ := hp
  refine ⟨p2, p4, p5, p6, p7, p8, p10, allTo_facts p11 (by omega), allTo_facts p12 (by omega), allTo_facts p13 (by omega), fun k hk => ?_, fun k hk => ?_, fun k hk => ?_, fun k hk => ?_⟩
  · rw [nth_eq hk]; exact (mayCh_facts (List.all_eq_true.1 p14 _ (List.getElem_mem hk)) p7).1
  · rw [nth_eq hk]; exact (mayCh_facts (List.all_eq_true.1 p14 _ (List.getElem_mem hk)) p7).2
  · have := List.all_eq_true.1 p15 _ (List.getElem_mem hk)
    unfold mayF at this
    simp only [Bool.and_eq_true, decide_eq_true_eq] at this
    rw [nth_eq hk]; omega
  · have := List.all_eq_true.1 p15 _ (List.getElem_mem hk)
    unfold mayF at this
    simp only [Bool.and_eq_true, decide_eq_true_eq] at this
    rw [nth_eq hk]; omega
theorem signedB_le {n : Int} : (signedB n).length ≤ 9 := by
  unfold signedB
  simp only
  split <;> split <;> (try split) <;> exact shortB_len (by omega)
theorem listB_le {l : List Int} (hl : ∀ k < l.length, nth l k ≤ 9223372036854775807) (hll : l.length ≤ 1000) : (listB l).length ≤ 9 + 9 * l.length := by
  have key : ∀ k, k ≤ l.length → ((l.take k).flatMap shortB).length ≤ 9 * k := by
    intro k
    induction k with
    | zero => simp
    | succ k ih =>
      intro hk
      have h1 := ih (by omega)
      have h2 := shortB_le (hl k (by omega))
      rw [take_succ_nth (by omega), List.flatMap_append, List.length_append]
      simp only [List.flatMap_cons, List.flatMap_nil, List.append_nil]
      omega
  have := key l.length (Nat.le_refl _)
  rw [List.take_length] at this
  unfold listB
  rw [List.length_append]
  have := shortB_le (n := l.length) (by omega)
  omega
theorem gro_byte {P : Program} {t t2 : TypeId} (hok : appOk P t t2 1 1 = true) {v0 v : List Nat} {l : List UInt8} {x : LV} {B : Nat} (h : Gro v0 v l x ∧ l.length ≤ B) (b : UInt8) (hB : B ≤ 90000000) :
    ∃ x' v', (Gro v0 v' (l ++ [b]) x' ∧ (l ++ [b]).length ≤ B + 1) ∧ (∀ r s, aAppend P t t2 x (.imm 1 1 [.int .u8 (b.toNat : Int)] r) s v = some (x', v')) ∧ (x'.cells = [x'] ∧ x'.cellsOk = true) := by
  have h2 := h.2
  obtain ⟨x', v', h1, _, h3⟩ := Gro.push (P := P) (t := t) (t2 := t2) (sz := 1) (by_ := 1) hok rfl (by omega) h.1 b (ds := [.int .u8 (b.toNat : Int)]) (Weaks.refl _) rfl (by omega)
  exact ⟨x', v', ⟨h1, by simp; omega⟩, h3, h1.cells⟩
set_option maxHeartbeats 8000000 in
theorem rwrite_f {fs : List Fn_} {mu th : Int} {co se ch : List Int} {cho : List (List Int)} (hp : mayP ⟨fs, mu, co, se, ch, cho, th⟩ = true) :
    Fresh Tryz.prog 6 [.agg [row fs, .int .i64 mu, row co, row se, row ch, row cho, .int .i64 th]] (writeP ⟨fs, mu, co, se, ch, cho, th⟩) := by
  obtain ⟨q1, q2, q3, q4, q5, q6, q7, q8, q9, q10, q11, q12, q13, q14⟩ := mayP_facts hp
  clear hp
  refine .of fun s vz => ?_
  refine aCalls_go Tryz.func6 rfl (by decide) Tryz.ntmps6 (by simp) false ?_
  have hres : Tryz.f6.results = #[.tmp 2] := rfl
  repeat' (first | with_reducible refine br_t ?_ | with_reducible refine br_f ?_ | with_reducible refine br_dec (fun _ => ?_) (fun _ => ?_) | with_reducible refine g_dec (fun _ => ?_) (fun _ => ?_) | with_reducible refine g_ndec (fun _ => ?_) (fun _ => ?_) | with_reducible refine br_not (fun _ => ?_) (fun _ => ?_) | with_reducible refine br_split (fun _ => ?_) (fun _ => ?_) | with_reducible refine g_not (fun _ => ?_) (fun _ => ?_) | with_reducible refine g_split (fun _ => ?_) (fun _ => ?_) | with_reducible refine px_dec (fun _ => ?_) (fun _ => ?_) | with_reducible refine px_ndec (fun _ => ?_) (fun _ => ?_) | with_reducible refine px_split (fun _ => ?_) (fun _ => ?_) | with_reducible refine callF (rshort_f (by omega)) (fun x v1 hx => ?_) | simp -implicitDefEqProofs (maxSteps := 2000000) (disch := first | assumption | omega) [*, ])
  have hx : Gro vz v1 (shortB fs.length) x ∧ (shortB fs.length).length ≤ 9 := ⟨hx, shortB_le (by omega)⟩
  refine aW_for (β := LV × List AObj × List Nat) false fs.length (fun k p => Gro vz p.2.2 (shortB fs.length ++ (fs.take k).flatMap fnB) p.1 ∧ (shortB fs.length ++ (fs.take k).flatMap fnB).length ≤ 9 + 700 * k) (fun k p => [(3, p.1), (4, .int .i64 k), (12, .any), (13, .any), (14, .any), (15, .any), (16, .any), (19, .any), (20, .any), (21, .any), (22, .any), (23, .any), (5, .any), (24, .any), (25, .any), (26, .any), (27, .any), (28, .any), (29, .any), (30, .any), (31, .any), (32, .any), (33, .any), (34, .any), (6, .any), (35, .any), (36, .any), (37, .any), (38, .any), (39, .any), (42, .any), (43, .any), (44, .any), (45, .any), (46, .any), (47, .any), (48, .any), (49, .any), (50, .any), (51, .any), (52, .any), (53, .any), (54, .any), (55, .any), (56, .any), (57, .any), (58, .any), (59, .any), (60, .any), (40, .any), (41, .any), (17, .any), (18, .any)]) (fun _ p => s ++ (.cells [row fs, .int .i64 mu, row co, row se, row ch, row cho, .int .i64 th] :: p.2.1)) (fun _ p => p.2.2) ?_ ?_
  · exact ⟨(x, [], v1), gro_eq hx (by simp) (by omega), by (refine Fits.of ?_ (Off.refl _ _); simp [upd_apply, upds_cons]), rfl, rfl⟩
  rintro k ⟨x, J, v⟩ hk hx
  simp only at hx
  have hxc := hx.1.cells
  by_cases hlt : k < fs.length
  · have e1 := q13 k hlt
    have e2 := q14 k hlt
    repeat' (first | with_reducible refine br_t ?_ | with_reducible refine br_f ?_ | with_reducible refine br_dec (fun _ => ?_) (fun _ => ?_) | with_reducible refine g_dec (fun _ => ?_) (fun _ => ?_) | with_reducible refine g_ndec (fun _ => ?_) (fun _ => ?_) | with_reducible refine br_not (fun _ => ?_) (fun _ => ?_) | with_reducible refine br_split (fun _ => ?_) (fun _ => ?_) | with_reducible refine g_not (fun _ => ?_) (fun _ => ?_) | with_reducible refine g_split (fun _ => ?_) (fun _ => ?_) | with_reducible refine px_dec (fun _ => ?_) (fun _ => ?_) | with_reducible refine px_ndec (fun _ => ?_) (fun _ => ?_) | with_reducible refine px_split (fun _ => ?_) (fun _ => ?_) | with_reducible refine callG (P := Tryz.prog) (t := 22) (t2 := 22) (by_ := 1) (by kernel_rfl) (by omega) (rshort_f (by omega)).pure hx (shortB_le (by omega)) (by omega) (fun v2 x v hx ha hxc => ?_) | with_reducible refine callG (P := Tryz.prog) (t := 22) (t2 := 22) (by_ := 1) (by kernel_rfl) (by omega) rsigned_f.pure hx signedB_le (by omega) (fun v2 x v hx ha hxc => ?_) | with_reducible refine callG (P := Tryz.prog) (t := 22) (t2 := 22) (by_ := 1) (by kernel_rfl) (by omega) (rlist_f (by assumption) (by omega)).pure hx (listB_le (by assumption) (by omega)) (by omega) (fun v2 x v hx ha hxc => ?_) | simp -implicitDefEqProofs (maxSteps := 2000000) (disch := first | assumption | omega) [*, ])
    refine aWl_for (β := LV × List Nat) false (nth fs k).code.length (fun j p => Gro vz p.2 (shortB fs.length ++ (fs.take k).flatMap fnB ++ (shortB (nth fs k).locals ++ shortB (nth fs k).code.length ++ ((nth fs k).code.take j).flatMap insB)) p.1 ∧ (shortB fs.length ++ (fs.take k).flatMap fnB ++ (shortB (nth fs k).locals ++ shortB (nth fs k).code.length ++ ((nth fs k).code.take j).flatMap insB)).length ≤ 9 + 700 * k + 18 + 10 * j) (fun j p => [(3, p.1), (6, .int .i64 j), (35, .any), (36, .any), (37, .any), (38, .any), (39, .any), (42, .any), (43, .any), (44, .any), (45, .any), (46, .any), (47, .any), (48, .any), (49, .any), (50, .any), (51, .any), (52, .any), (53, .any), (54, .any), (55, .any), (56, .any), (57, .any), (58, .any), (59, .any), (60, .any), (40, .any), (41, .any)]) (fun _ _ => s ++ (.cells [row fs, .int .i64 mu, row co, row se, row ch, row cho, .int .i64 th] :: (J ++ [.cells [.int .i64 (nth fs k).locals, row (nth fs k).code]]))) (fun _ p => p.2) ?_ ?_
    · exact ⟨(_, _), gro_eq hx (by simp) (by omega), by (refine Fits.of ?_ (Off.refl _ _); simp [upd_apply, upds_cons]), rfl, rfl⟩
    rintro j ⟨x, v⟩ hj hx
    simp only at hx
    have hxc := hx.1.cells
    by_cases hjl : j < (nth fs k).code.length
    · obtain ⟨x1, w1, hx1, ha1, hxc1⟩ := gro_byte (P := Tryz.prog) (t := 22) (t2 := 22) (by kernel_rfl) hx (UInt8.ofInt (nth (nth fs k).code j).op) (by omega)
      have hu1 := u8_op (nth (nth fs k).code j).op
      obtain ⟨z, hz⟩ : ∃ z : Int, z = ((UInt8.ofInt (nth (nth fs k).code j).op).toNat : Int) := ⟨_, rfl⟩
      rw [← hz] at hu1 ha1
      clear hz
      clear hx hxc
      have hx := hx1
      repeat' (first | with_reducible refine br_t ?_ | with_reducible refine br_f ?_ | with_reducible refine br_dec (fun _ => ?_) (fun _ => ?_) | with_reducible refine g_dec (fun _ => ?_) (fun _ => ?_) | with_reducible refine g_ndec (fun _ => ?_) (fun _ => ?_) | with_reducible refine br_not (fun _ => ?_) (fun _ => ?_) | with_reducible refine br_split (fun _ => ?_) (fun _ => ?_) | with_reducible refine g_not (fun _ => ?_) (fun _ => ?_) | with_reducible refine g_split (fun _ => ?_) (fun _ => ?_) | with_reducible refine px_dec (fun _ => ?_) (fun _ => ?_) | with_reducible refine px_ndec (fun _ => ?_) (fun _ => ?_) | with_reducible refine px_split (fun _ => ?_) (fun _ => ?_) | with_reducible refine callG (P := Tryz.prog) (t := 22) (t2 := 22) (by_ := 1) (by kernel_rfl) (by omega) (rshort_f (by omega)).pure hx (shortB_le (by omega)) (by omega) (fun v2 x v hx ha hxc => ?_) | with_reducible refine callG (P := Tryz.prog) (t := 22) (t2 := 22) (by_ := 1) (by kernel_rfl) (by omega) rsigned_f.pure hx signedB_le (by omega) (fun v2 x v hx ha hxc => ?_) | with_reducible refine callG (P := Tryz.prog) (t := 22) (t2 := 22) (by_ := 1) (by kernel_rfl) (by omega) (rlist_f (by assumption) (by omega)).pure hx (listB_le (by assumption) (by omega)) (by omega) (fun v2 x v hx ha hxc => ?_) | simp -implicitDefEqProofs (maxSteps := 2000000) (disch := first | assumption | omega) [*, ])
      exact ⟨hjl, (_, _), gro_eq hx (by simp [take_succ_nth hjl, insB]) (by omega), by (refine Fits.of ?_ ?_; rotate_left; (repeat (first | with_reducible exact Off.refl _ _ | refine Off.upd rfl ?_ | refine Off.updO rfl ?_ | refine Off.upds rfl ?_)); simp [upd_apply, upds_cons]), rfl, rfl⟩
    · have : j = (nth fs k).code.length := by omega
      subst this
      repeat' (first | with_reducible refine br_t ?_ | with_reducible refine br_f ?_ | with_reducible refine br_dec (fun _ => ?_) (fun _ => ?_) | with_reducible refine g_dec (fun _ => ?_) (fun _ => ?_) | with_reducible refine g_ndec (fun _ => ?_) (fun _ => ?_) | with_reducible refine br_not (fun _ => ?_) (fun _ => ?_) | with_reducible refine br_split (fun _ => ?_) (fun _ => ?_) | with_reducible refine g_not (fun _ => ?_) (fun _ => ?_) | with_reducible refine g_split (fun _ => ?_) (fun _ => ?_) | with_reducible refine px_dec (fun _ => ?_) (fun _ => ?_) | with_reducible refine px_ndec (fun _ => ?_) (fun _ => ?_) | with_reducible refine px_split (fun _ => ?_) (fun _ => ?_) | simp -implicitDefEqProofs (maxSteps := 2000000) (disch := first | assumption | omega) [*, ])
      exact ⟨hlt, (_, _, _), gro_eq hx (by simp [take_succ_nth hlt, fnB]) (by omega), by (refine Fits.of ?_ ?_; rotate_left; (repeat (first | with_reducible exact Off.refl _ _ | refine Off.upd rfl ?_ | refine Off.updO rfl ?_ | refine Off.upds rfl ?_)); simp [upd_apply, upds_cons]), rfl, rfl⟩
  · have : k = fs.length := by omega
    subst this
    repeat' (first | with_reducible refine br_t ?_ | with_reducible refine br_f ?_ | with_reducible refine br_dec (fun _ => ?_) (fun _ => ?_) | with_reducible refine g_dec (fun _ => ?_) (fun _ => ?_) | with_reducible refine g_ndec (fun _ => ?_) (fun _ => ?_) | with_reducible refine br_not (fun _ => ?_) (fun _ => ?_) | with_reducible refine br_split (fun _ => ?_) (fun _ => ?_) | with_reducible refine g_not (fun _ => ?_) (fun _ => ?_) | with_reducible refine g_split (fun _ => ?_) (fun _ => ?_) | with_reducible refine px_dec (fun _ => ?_) (fun _ => ?_) | with_reducible refine px_ndec (fun _ => ?_) (fun _ => ?_) | with_reducible refine px_split (fun _ => ?_) (fun _ => ?_) | with_reducible refine callG (P := Tryz.prog) (t := 22) (t2 := 22) (by_ := 1) (by kernel_rfl) (by omega) (rshort_f (by omega)).pure hx (shortB_le (by omega)) (by omega) (fun v2 x v hx ha hxc => ?_) | with_reducible refine callG (P := Tryz.prog) (t := 22) (t2 := 22) (by_ := 1) (by kernel_rfl) (by omega) rsigned_f.pure hx signedB_le (by omega) (fun v2 x v hx ha hxc => ?_) | with_reducible refine callG (P := Tryz.prog) (t := 22) (t2 := 22) (by_ := 1) (by kernel_rfl) (by omega) (rlist_f (by assumption) (by omega)).pure hx (listB_le (by assumption) (by omega)) (by omega) (fun v2 x v hx ha hxc => ?_) | simp -implicitDefEqProofs (maxSteps := 2000000) (disch := first | assumption | omega) [*, ])
    obtain ⟨B, hB, hx⟩ : ∃ B, B ≤ 12000 ∧ (Gro vz v (shortB fs.length ++ fs.flatMap fnB ++ shortB mu ++ listB co ++ listB se ++ listB ch ++ shortB cho.length) x ∧ (shortB fs.length ++ fs.flatMap fnB ++ shortB mu ++ listB co ++ listB se ++ listB ch ++ shortB cho.length).length ≤ B) := ⟨_, by omega, gro_eq hx (by simp) (Nat.le_refl _)⟩
    refine aW_for (β := LV × List Nat) false cho.length (fun k p => Gro vz p.2 (shortB fs.length ++ fs.flatMap fnB ++ shortB mu ++ listB co ++ listB se ++ listB ch ++ (shortB cho.length ++ (cho.take k).flatMap listB)) p.1 ∧ (shortB fs.length ++ fs.flatMap fnB ++ shortB mu ++ listB co ++ listB se ++ listB ch ++ (shortB cho.length ++ (cho.take k).flatMap listB)).length ≤ B + 90 * k) (fun k p => [(3, p.1), (7, .int .i64 k), (87, .any), (88, .any), (89, .any), (90, .any), (91, .any), (94, .any), (95, .any), (96, .any), (97, .any), (98, .any), (99, .any), (100, .any), (101, .any), (92, .any), (93, .any)]) (fun _ _ => s ++ (.cells [row fs, .int .i64 mu, row co, row se, row ch, row cho, .int .i64 th] :: J)) (fun _ p => p.2) ?_ ?_
    · exact ⟨(_, _), gro_eq hx (by simp) (by omega), by (refine Fits.of ?_ (Off.refl _ _); simp [upd_apply, upds_cons]), rfl, rfl⟩
    rintro k ⟨x, v⟩ hk hx
    simp only at hx
    have hxc := hx.1.cells
    by_cases hlt : k < cho.length
    · have e1 := q11 k hlt
      have e2 := q12 k hlt
      repeat' (first | with_reducible refine br_t ?_ | with_reducible refine br_f ?_ | with_reducible refine br_dec (fun _ => ?_) (fun _ => ?_) | with_reducible refine g_dec (fun _ => ?_) (fun _ => ?_) | with_reducible refine g_ndec (fun _ => ?_) (fun _ => ?_) | with_reducible refine br_not (fun _ => ?_) (fun _ => ?_) | with_reducible refine br_split (fun _ => ?_) (fun _ => ?_) | with_reducible refine g_not (fun _ => ?_) (fun _ => ?_) | with_reducible refine g_split (fun _ => ?_) (fun _ => ?_) | with_reducible refine px_dec (fun _ => ?_) (fun _ => ?_) | with_reducible refine px_ndec (fun _ => ?_) (fun _ => ?_) | with_reducible refine px_split (fun _ => ?_) (fun _ => ?_) | with_reducible refine callG (P := Tryz.prog) (t := 22) (t2 := 22) (by_ := 1) (by kernel_rfl) (by omega) (rshort_f (by omega)).pure hx (shortB_le (by omega)) (by omega) (fun v2 x v hx ha hxc => ?_) | with_reducible refine callG (P := Tryz.prog) (t := 22) (t2 := 22) (by_ := 1) (by kernel_rfl) (by omega) rsigned_f.pure hx signedB_le (by omega) (fun v2 x v hx ha hxc => ?_) | with_reducible refine callG (P := Tryz.prog) (t := 22) (t2 := 22) (by_ := 1) (by kernel_rfl) (by omega) (rlist_f (by assumption) (by omega)).pure hx (listB_le (by assumption) (by omega)) (by omega) (fun v2 x v hx ha hxc => ?_) | simp -implicitDefEqProofs (maxSteps := 2000000) (disch := first | assumption | omega) [*, ])
      exact ⟨hlt, (_, _), gro_eq hx (by simp [take_succ_nth hlt]) (by omega), by (refine Fits.of ?_ ?_; rotate_left; (repeat (first | with_reducible exact Off.refl _ _ | refine Off.upd rfl ?_ | refine Off.updO rfl ?_ | refine Off.upds rfl ?_)); simp [upd_apply, upds_cons]), rfl, rfl⟩
    · have : k = cho.length := by omega
      subst this
      repeat' (first | with_reducible refine br_t ?_ | with_reducible refine br_f ?_ | with_reducible refine br_dec (fun _ => ?_) (fun _ => ?_) | with_reducible refine g_dec (fun _ => ?_) (fun _ => ?_) | with_reducible refine g_ndec (fun _ => ?_) (fun _ => ?_) | with_reducible refine br_not (fun _ => ?_) (fun _ => ?_) | with_reducible refine br_split (fun _ => ?_) (fun _ => ?_) | with_reducible refine g_not (fun _ => ?_) (fun _ => ?_) | with_reducible refine g_split (fun _ => ?_) (fun _ => ?_) | with_reducible refine px_dec (fun _ => ?_) (fun _ => ?_) | with_reducible refine px_ndec (fun _ => ?_) (fun _ => ?_) | with_reducible refine px_split (fun _ => ?_) (fun _ => ?_) | with_reducible refine callG (P := Tryz.prog) (t := 22) (t2 := 22) (by_ := 1) (by kernel_rfl) (by omega) (rshort_f (by omega)).pure hx (shortB_le (by omega)) (by omega) (fun v2 x v hx ha hxc => ?_) | with_reducible refine callG (P := Tryz.prog) (t := 22) (t2 := 22) (by_ := 1) (by kernel_rfl) (by omega) rsigned_f.pure hx signedB_le (by omega) (fun v2 x v hx ha hxc => ?_) | with_reducible refine callG (P := Tryz.prog) (t := 22) (t2 := 22) (by_ := 1) (by kernel_rfl) (by omega) (rlist_f (by assumption) (by omega)).pure hx (listB_le (by assumption) (by omega)) (by omega) (fun v2 x v hx ha hxc => ?_) | simp -implicitDefEqProofs (maxSteps := 2000000) (disch := first | assumption | omega) [*, ])
      simpa [writeP] using hx.1
end Go.Hb
end

