/-
  A layer for reasoning about the program's calls, and contracts of its functions (K). CONDITIONS: none; each theorem bears its own.
-/
import Derived.Test.YtcpmmldgimhppaaGreatG
import Derived.Test.YtcpmmldgimhppaaGreatL8
set_option linter.unusedVariables false
set_option linter.unusedSimpArgs false
section
namespace Go.Hb
open Go Go.Proofs Go.RowKit
set_option maxRecDepth 100000
set_option maxHeartbeats 800000
attribute [-simp] aC aL aOper aThen aInBlock aIf aPlan aAppend aLen aIndexAddr aSlice aCells aBounds lBr aq initT aev aAppendOwn aAppendNil aAppendNew aAppendRef LV.cells LV.cellsOk getElem?_pos getElem?_neg

theorem wshort_c {s : List AObj} {id B : Nat} {x : LV} {v0 v : List Nat} {bs : List UInt8} {n : Int} (hs : s[id]? = some (.cells [x])) (hx : WAt v0 v bs x B) (hn : n ≤ 9223372036854775807) (hB : B ≤ 90000000) :
    aCalls Tryz.prog 37 [.ptr id 0, .int .i64 n] s v (WPost s id v0 (bs ++ shortB n) (B + 9)) := by
  obtain ⟨hx, hb⟩ := hx
  have hid := (List.getElem?_eq_some_iff.1 hs).1
  have hlen := shortB_len hn
  obtain ⟨m, hm⟩ : ∃ m : Nat, m = n.toNat := ⟨_, rfl⟩
  have hmx : (if n < 0 then (0 : Int) else n) = (m : Int) := by split <;> omega
  have hsb : shortB n = shortN m := by unfold shortB; rw [hm]
  rw [hsb] at hlen ⊢
  have hset : ∀ a b, (s.set id a).set id b = s.set id b := fun a b => by simp
  have hget : ∀ a, (s.set id a)[id]? = some a := fun a => by simp [hid]
  have hs0 : s = s.set id (.cells [x]) := by
    apply List.ext_getElem?
    intro i
    by_cases e : id = i
    · subst e; rw [hget, hs]
    · rw [List.getElem?_set_ne e]
  rw [hs0]
  refine aCalls_mono (R := fun _ s' v' => ∃ x', s' = s.set id (.cells [x']) ∧ WAt v0 v' (bs ++ shortN m) x' (B + 9)) ?_ fun _ _ _ ⟨x', e1, e2⟩ => ⟨x', by rw [hset]; exact e1, e2⟩
  clear hs0 hs hm
  refine aCalls_go Tryz.func37 rfl (by decide) Tryz.ntmps37 (by simp) false ?_
  have hres : Tryz.f37.results = #[] := rfl
  repeat' (first | with_reducible refine br_t ?_ | with_reducible refine br_f ?_ | with_reducible refine br_dec (fun _ => ?_) (fun _ => ?_) | with_reducible refine g_dec (fun _ => ?_) (fun _ => ?_) | with_reducible refine g_ndec (fun _ => ?_) (fun _ => ?_) | with_reducible refine br_not (fun _ => ?_) (fun _ => ?_) | with_reducible refine br_split (fun _ => ?_) (fun _ => ?_) | with_reducible refine g_not (fun _ => ?_) (fun _ => ?_) | with_reducible refine g_split (fun _ => ?_) (fun _ => ?_) | with_reducible refine px_dec (fun _ => ?_) (fun _ => ?_) | with_reducible refine px_ndec (fun _ => ?_) (fun _ => ?_) | with_reducible refine px_split (fun _ => ?_) (fun _ => ?_) | simp -implicitDefEqProofs (maxSteps := 2000000) (disch := first | assumption | omega) [*, ])
  refine aW_fall (β := Nat × LV × List UInt8 × List Nat) false (fun p => p.2.2.1 ++ shortN p.1 = bs ++ shortN m ∧ GroE v0 p.2.2.2 p.2.2.1 p.2.1 ∧ p.1 ≤ 9223372036854775807) (fun p => p.1) (fun p => [(1, .int .i64 p.1), (6, .any), (7, .any), (10, .any), (11, .any), (12, .any), (13, .any), (14, .any), (15, .any), (16, .any), (17, .any), (18, .any), (19, .any), (20, .any), (21, .any), (8, .any), (9, .any)]) (fun p => s.set id (.cells [p.2.1])) (fun p => p.2.2.2) ?_ ?_
  · exact ⟨(m, x, bs, v), ⟨rfl, hx, by omega⟩, by (refine Fits.of ?_ (Off.refl _ _); simp [upd_apply, upds_cons]), rfl, rfl⟩
  rintro ⟨q, x, cs, v⟩ ⟨he, hx, hq⟩
  simp only at he hx hq
  have hxc := hx.gro.cells
  have hcl : cs.length + (shortN q).length ≤ B + 9 := by
    have := congrArg List.length he
    simp only [List.length_append] at this
    omega
  have hidu : ∀ a, id < (s.set id a).length := fun a => by simpa using hid
  by_cases h128 : q < 128
  · have hsq : shortN q = [UInt8.ofNat q] := by rw [shortN]; simp [h128]
    rw [hsq] at he hcl
    simp only [List.length_cons, List.length_nil] at hcl
    obtain ⟨x', v', hx', _, ha⟩ := GroE.push (P := Tryz.prog) (t := 22) (t2 := 22) (sz := 1) (by_ := 1) (by kernel_rfl) rfl (by omega) hx (UInt8.ofNat q) (by omega)
    simp only [enc_u8] at ha
    have hxc' := hx'.gro.cells
    obtain ⟨z, hz⟩ : ∃ z : Int, z = ((UInt8.ofNat q).toNat : Int) := ⟨_, rfl⟩
    obtain ⟨hz1, hz2⟩ := u8_z hz
    rw [← hz] at ha
    clear hz
    repeat' (first | with_reducible refine br_t ?_ | with_reducible refine br_f ?_ | with_reducible refine br_dec (fun _ => ?_) (fun _ => ?_) | with_reducible refine g_dec (fun _ => ?_) (fun _ => ?_) | with_reducible refine g_ndec (fun _ => ?_) (fun _ => ?_) | with_reducible refine br_not (fun _ => ?_) (fun _ => ?_) | with_reducible refine br_split (fun _ => ?_) (fun _ => ?_) | with_reducible refine g_not (fun _ => ?_) (fun _ => ?_) | with_reducible refine g_split (fun _ => ?_) (fun _ => ?_) | with_reducible refine px_dec (fun _ => ?_) (fun _ => ?_) | with_reducible refine px_ndec (fun _ => ?_) (fun _ => ?_) | with_reducible refine px_split (fun _ => ?_) (fun _ => ?_) | simp -implicitDefEqProofs (maxSteps := 2000000) (disch := first | assumption | omega) [*, ])
    all_goals first | (exfalso; omega) | skip
    exact ⟨x', rfl, by show GroE v0 v' _ x'; rw [← he]; exact hx', by rw [← he]; simp only [List.length_append, List.length_cons, List.length_nil]; omega⟩
  · have hsq : shortN q = UInt8.ofNat (128 + q % 128) :: shortN (q / 128) := by rw [shortN]; simp [h128]
    rw [hsq] at he hcl
    obtain ⟨x', v', hx', _, ha⟩ := GroE.push (P := Tryz.prog) (t := 22) (t2 := 22) (sz := 1) (by_ := 1) (by kernel_rfl) rfl (by omega) hx (UInt8.ofNat (128 + q % 128)) (by simp at hcl; omega)
    simp only [enc_u8] at ha
    have hxc' := hx'.gro.cells
    obtain ⟨z, hz⟩ : ∃ z : Int, z = ((UInt8.ofNat (128 + q % 128)).toNat : Int) := ⟨_, rfl⟩
    have hz1 := u8_or1 q
    have hz2 := u8_or2 q
    rw [← hz] at ha hz1 hz2
    clear hz
    repeat' (first | with_reducible refine br_t ?_ | with_reducible refine br_f ?_ | with_reducible refine br_dec (fun _ => ?_) (fun _ => ?_) | with_reducible refine g_dec (fun _ => ?_) (fun _ => ?_) | with_reducible refine g_ndec (fun _ => ?_) (fun _ => ?_) | with_reducible refine br_not (fun _ => ?_) (fun _ => ?_) | with_reducible refine br_split (fun _ => ?_) (fun _ => ?_) | with_reducible refine g_not (fun _ => ?_) (fun _ => ?_) | with_reducible refine g_split (fun _ => ?_) (fun _ => ?_) | with_reducible refine px_dec (fun _ => ?_) (fun _ => ?_) | with_reducible refine px_ndec (fun _ => ?_) (fun _ => ?_) | with_reducible refine px_split (fun _ => ?_) (fun _ => ?_) | simp -implicitDefEqProofs (maxSteps := 2000000) (disch := first | assumption | omega) [*, ])
    all_goals first | (exfalso; omega) | skip
    refine ⟨(q / 128, x', cs ++ [UInt8.ofNat (128 + q % 128)], v'), by show q / 128 < q; omega, ⟨by simpa using he, hx', by show q / 128 ≤ _; omega⟩, ?_, rfl, rfl⟩
    (refine Fits.of ?_ ?_; rotate_left; (repeat (first | with_reducible exact Off.refl _ _ | refine Off.upd rfl ?_ | refine Off.updO rfl ?_ | refine Off.upds rfl ?_)); simp [upd_apply, upds_cons])
    all_goals exact Int.fdiv_eq_ediv_of_nonneg _ (by decide)
end Go.Hb
end

section
namespace Go.Hb
open Go Go.Proofs Go.RowKit
set_option maxRecDepth 100000
set_option maxHeartbeats 800000
attribute [-simp] aC aL aOper aThen aInBlock aIf aPlan aAppend aLen aIndexAddr aSlice aCells aBounds lBr aq initT aev aAppendOwn aAppendNil aAppendNew aAppendRef LV.cells LV.cellsOk getElem?_pos getElem?_neg

theorem wraw_c {s : List AObj} {id B : Nat} {x : LV} {v0 v : List Nat} {bs : List UInt8} {b : UInt8} {z : Int} {r : Right} (hs : s[id]? = some (.cells [x])) (hx : WAt v0 v bs x B) (hz : z = (b.toNat : Int)) (hB : B ≤ 90000000) :
    aCalls Tryz.prog 38 [.ptr id 0, .imm 1 1 [.int .u8 z] r] s v (WPost s id v0 (bs ++ [b]) (B + 1)) := by
  obtain ⟨hx, hb⟩ := hx
  have hid := (List.getElem?_eq_some_iff.1 hs).1
  have hxc := hx.gro.cells
  obtain ⟨x', v', hx', _, ha⟩ := GroE.push (P := Tryz.prog) (t := 22) (t2 := 22) (sz := 1) (by_ := 1) (by kernel_rfl) rfl (by omega) hx b (by omega)
  simp only [enc_u8] at ha
  have hxc' := hx'.gro.cells
  rw [← hz] at ha
  clear hz
  refine aCalls_go Tryz.func38 rfl (by decide) Tryz.ntmps38 (by simp) false ?_
  have hres : Tryz.f38.results = #[] := rfl
  repeat' (first | with_reducible refine br_t ?_ | with_reducible refine br_f ?_ | with_reducible refine br_dec (fun _ => ?_) (fun _ => ?_) | with_reducible refine g_dec (fun _ => ?_) (fun _ => ?_) | with_reducible refine g_ndec (fun _ => ?_) (fun _ => ?_) | with_reducible refine br_not (fun _ => ?_) (fun _ => ?_) | with_reducible refine br_split (fun _ => ?_) (fun _ => ?_) | with_reducible refine g_not (fun _ => ?_) (fun _ => ?_) | with_reducible refine g_split (fun _ => ?_) (fun _ => ?_) | with_reducible refine px_dec (fun _ => ?_) (fun _ => ?_) | with_reducible refine px_ndec (fun _ => ?_) (fun _ => ?_) | with_reducible refine px_split (fun _ => ?_) (fun _ => ?_) | simp -implicitDefEqProofs (maxSteps := 2000000) (disch := first | assumption | omega) [*, ])
  exact ⟨x', rfl, hx', by simp only [List.length_append, List.length_cons, List.length_nil]; omega⟩

theorem wsigned_c {s : List AObj} {id B : Nat} {x : LV} {v0 v : List Nat} {bs : List UInt8} {n : Int} (hs : s[id]? = some (.cells [x])) (hx : WAt v0 v bs x B) (hB : B ≤ 90000000) :
    aCalls Tryz.prog 39 [.ptr id 0, .int .i64 n] s v (WPost s id v0 (bs ++ signedB n) (B + 9)) := by
  have hid := (List.getElem?_eq_some_iff.1 hs).1
  by_cases h1 : n < -2305843009213693952
  · have hsb : signedB n = shortB 4611686018427387903 := by unfold signedB; simp [h1]
    rw [hsb]
    refine aCalls_go Tryz.func39 rfl (by decide) Tryz.ntmps39 (by simp) false ?_
    have hres : Tryz.f39.results = #[] := rfl
    repeat' (first | with_reducible refine br_t ?_ | with_reducible refine br_f ?_ | with_reducible refine br_dec (fun _ => ?_) (fun _ => ?_) | with_reducible refine g_dec (fun _ => ?_) (fun _ => ?_) | with_reducible refine g_ndec (fun _ => ?_) (fun _ => ?_) | with_reducible refine br_not (fun _ => ?_) (fun _ => ?_) | with_reducible refine br_split (fun _ => ?_) (fun _ => ?_) | with_reducible refine g_not (fun _ => ?_) (fun _ => ?_) | with_reducible refine g_split (fun _ => ?_) (fun _ => ?_) | with_reducible refine px_dec (fun _ => ?_) (fun _ => ?_) | with_reducible refine px_ndec (fun _ => ?_) (fun _ => ?_) | with_reducible refine px_split (fun _ => ?_) (fun _ => ?_) | with_reducible refine callW (wshort_c (x := x) (by assumption) hx (by omega) (by omega)) (fun y x v hx => ?_) | simp -implicitDefEqProofs (maxSteps := 2000000) (disch := first | assumption | omega) [*, ])
    exact ⟨_, rfl, hx⟩
  by_cases h2 : 2305843009213693951 < n
  · have hsb : signedB n = shortB 4611686018427387902 := by unfold signedB; simp [h1, h2]
    rw [hsb]
    refine aCalls_go Tryz.func39 rfl (by decide) Tryz.ntmps39 (by simp) false ?_
    have hres : Tryz.f39.results = #[] := rfl
    repeat' (first | with_reducible refine br_t ?_ | with_reducible refine br_f ?_ | with_reducible refine br_dec (fun _ => ?_) (fun _ => ?_) | with_reducible refine g_dec (fun _ => ?_) (fun _ => ?_) | with_reducible refine g_ndec (fun _ => ?_) (fun _ => ?_) | with_reducible refine br_not (fun _ => ?_) (fun _ => ?_) | with_reducible refine br_split (fun _ => ?_) (fun _ => ?_) | with_reducible refine g_not (fun _ => ?_) (fun _ => ?_) | with_reducible refine g_split (fun _ => ?_) (fun _ => ?_) | with_reducible refine px_dec (fun _ => ?_) (fun _ => ?_) | with_reducible refine px_ndec (fun _ => ?_) (fun _ => ?_) | with_reducible refine px_split (fun _ => ?_) (fun _ => ?_) | with_reducible refine callW (wshort_c (x := x) (by assumption) hx (by omega) (by omega)) (fun y x v hx => ?_) | simp -implicitDefEqProofs (maxSteps := 2000000) (disch := first | assumption | omega) [*, ])
    exact ⟨_, rfl, hx⟩
  by_cases h3 : n < 0
  · have hsb : signedB n = shortB (2 * -(n + 1) + 1) := by unfold signedB; simp [h1, h2, h3]
    rw [hsb]
    refine aCalls_go Tryz.func39 rfl (by decide) Tryz.ntmps39 (by simp) false ?_
    have hres : Tryz.f39.results = #[] := rfl
    repeat' (first | with_reducible refine br_t ?_ | with_reducible refine br_f ?_ | with_reducible refine br_dec (fun _ => ?_) (fun _ => ?_) | with_reducible refine g_dec (fun _ => ?_) (fun _ => ?_) | with_reducible refine g_ndec (fun _ => ?_) (fun _ => ?_) | with_reducible refine br_not (fun _ => ?_) (fun _ => ?_) | with_reducible refine br_split (fun _ => ?_) (fun _ => ?_) | with_reducible refine g_not (fun _ => ?_) (fun _ => ?_) | with_reducible refine g_split (fun _ => ?_) (fun _ => ?_) | with_reducible refine px_dec (fun _ => ?_) (fun _ => ?_) | with_reducible refine px_ndec (fun _ => ?_) (fun _ => ?_) | with_reducible refine px_split (fun _ => ?_) (fun _ => ?_) | with_reducible refine callW (wshort_c (x := x) (by assumption) hx (by omega) (by omega)) (fun y x v hx => ?_) | simp -implicitDefEqProofs (maxSteps := 2000000) (disch := first | assumption | omega) [*, ])
    all_goals exact ⟨_, rfl, hx⟩
  · have hsb : signedB n = shortB (2 * n) := by unfold signedB; simp [h1, h2, h3]
    rw [hsb]
    refine aCalls_go Tryz.func39 rfl (by decide) Tryz.ntmps39 (by simp) false ?_
    have hres : Tryz.f39.results = #[] := rfl
    repeat' (first | with_reducible refine br_t ?_ | with_reducible refine br_f ?_ | with_reducible refine br_dec (fun _ => ?_) (fun _ => ?_) | with_reducible refine g_dec (fun _ => ?_) (fun _ => ?_) | with_reducible refine g_ndec (fun _ => ?_) (fun _ => ?_) | with_reducible refine br_not (fun _ => ?_) (fun _ => ?_) | with_reducible refine br_split (fun _ => ?_) (fun _ => ?_) | with_reducible refine g_not (fun _ => ?_) (fun _ => ?_) | with_reducible refine g_split (fun _ => ?_) (fun _ => ?_) | with_reducible refine px_dec (fun _ => ?_) (fun _ => ?_) | with_reducible refine px_ndec (fun _ => ?_) (fun _ => ?_) | with_reducible refine px_split (fun _ => ?_) (fun _ => ?_) | with_reducible refine callW (wshort_c (x := x) (by assumption) hx (by omega) (by omega)) (fun y x v hx => ?_) | simp -implicitDefEqProofs (maxSteps := 2000000) (disch := first | assumption | omega) [*, ])
    all_goals exact ⟨_, rfl, hx⟩

theorem wclone_c {bs : List UInt8} {r : Right} (hne : bs.length ≠ 0) (hb : bs.length ≤ 90000000) :
    PureC Tryz.prog 52 [.imm 1 bs.length (rowCs bs) r] (row bs) := by
  refine .of fun s v => ?_
  obtain ⟨x', v', hx', _, ha⟩ := GroC.app (P := Tryz.prog) (t := 22) (t2 := 22) (sz := 1) (by_ := 1) (v0 := v) (v := v) (n := 0) (m := bs.length) (cs := []) (ds := rowCs bs) (x := .imm 1 0 [] .full) (by kernel_rfl) ⟨List.prefix_refl _, .inl ⟨rfl, rfl, .inr rfl⟩⟩ (fun h => absurd h hne) (by unfold maxLen; omega) (by omega)
  replace ha := fun s => ha (.imm 1 bs.length (rowCs bs) r) s (by simp [aCells])
  have hg : GroE v v' bs x' := by unfold GroE; simpa using hx'
  have hu := hg.gro.under s.length
  refine aCalls_go Tryz.func52 rfl (by decide) Tryz.ntmps52 (by simp) false ?_
  have hres : Tryz.f52.results = #[.tmp 2] := rfl
  repeat' (first | with_reducible refine br_t ?_ | with_reducible refine br_f ?_ | with_reducible refine br_dec (fun _ => ?_) (fun _ => ?_) | with_reducible refine g_dec (fun _ => ?_) (fun _ => ?_) | with_reducible refine g_ndec (fun _ => ?_) (fun _ => ?_) | with_reducible refine br_not (fun _ => ?_) (fun _ => ?_) | with_reducible refine br_split (fun _ => ?_) (fun _ => ?_) | with_reducible refine g_not (fun _ => ?_) (fun _ => ?_) | with_reducible refine g_split (fun _ => ?_) (fun _ => ?_) | with_reducible refine px_dec (fun _ => ?_) (fun _ => ?_) | with_reducible refine px_ndec (fun _ => ?_) (fun _ => ?_) | with_reducible refine px_split (fun _ => ?_) (fun _ => ?_) | simp -implicitDefEqProofs (maxSteps := 2000000) (disch := first | assumption | omega) [*, ])
  exact Ends.same hu hg.gro.weak hg.1

theorem wbytes_c {s : List AObj} {id B : Nat} {x : LV} {v0 v : List Nat} {bs : List UInt8} (hs : s[id]? = some (.cells [x])) (hx : WAt v0 v bs x B) (hne : bs.length ≠ 0) (hB : B ≤ 90000000) :
    aCalls Tryz.prog 40 [.ptr id 0] s v fun y s' v' => row bs = y ∧ s = s' ∧ v <+: v' := by
  obtain ⟨hx, hb⟩ := hx
  have hid := (List.getElem?_eq_some_iff.1 hs).1
  obtain ⟨g, e, _, rfl, _⟩ := hx.2.resolve_left (fun h => hne h.1)
  have hc := wclone_c (bs := bs) (r := .tip g e) hne (by omega)
  simp only [show Enc.sz UInt8 = 1 from rfl] at hs
  refine aCalls_ends ?_
  refine aCalls_go Tryz.func40 rfl (by decide) Tryz.ntmps40 (by simp) false ?_
  have hres : Tryz.f40.results = #[.tmp 2] := rfl
  repeat' (first | with_reducible refine br_t ?_ | with_reducible refine br_f ?_ | with_reducible refine br_dec (fun _ => ?_) (fun _ => ?_) | with_reducible refine g_dec (fun _ => ?_) (fun _ => ?_) | with_reducible refine g_ndec (fun _ => ?_) (fun _ => ?_) | with_reducible refine br_not (fun _ => ?_) (fun _ => ?_) | with_reducible refine br_split (fun _ => ?_) (fun _ => ?_) | with_reducible refine g_not (fun _ => ?_) (fun _ => ?_) | with_reducible refine g_split (fun _ => ?_) (fun _ => ?_) | with_reducible refine px_dec (fun _ => ?_) (fun _ => ?_) | with_reducible refine px_ndec (fun _ => ?_) (fun _ => ?_) | with_reducible refine px_split (fun _ => ?_) (fun _ => ?_) | with_reducible refine callC hc (fun v2 hv2 => ?_) | simp -implicitDefEqProofs (maxSteps := 2000000) (disch := first | assumption | omega) [*, ])
  exact Ends.eq rfl (by simp) hv2

theorem wlist_c {l : List Int} {s : List AObj} {id B : Nat} {x : LV} {v0 v : List Nat} {bs : List UInt8} (hs : s[id]? = some (.cells [x])) (hx : WAt v0 v bs x B) (hl : ∀ k < l.length, nth l k ≤ 9223372036854775807) (hll : l.length ≤ 1000) (hB : B ≤ 80000000) :
    aCalls Tryz.prog 36 [row l, .ptr id 0] s v (WPost s id v0 (bs ++ listB l) (B + 9 + 9 * l.length)) := by
  have hid := (List.getElem?_eq_some_iff.1 hs).1
  refine aCalls_go Tryz.func36 rfl (by decide) Tryz.ntmps36 (by simp) false ?_
  have hres : Tryz.f36.results = #[] := rfl
  repeat' (first | with_reducible refine br_t ?_ | with_reducible refine br_f ?_ | with_reducible refine br_dec (fun _ => ?_) (fun _ => ?_) | with_reducible refine g_dec (fun _ => ?_) (fun _ => ?_) | with_reducible refine g_ndec (fun _ => ?_) (fun _ => ?_) | with_reducible refine br_not (fun _ => ?_) (fun _ => ?_) | with_reducible refine br_split (fun _ => ?_) (fun _ => ?_) | with_reducible refine g_not (fun _ => ?_) (fun _ => ?_) | with_reducible refine g_split (fun _ => ?_) (fun _ => ?_) | with_reducible refine px_dec (fun _ => ?_) (fun _ => ?_) | with_reducible refine px_ndec (fun _ => ?_) (fun _ => ?_) | with_reducible refine px_split (fun _ => ?_) (fun _ => ?_) | with_reducible refine callW (wshort_c (x := x) (by assumption) hx (by omega) (by omega)) (fun y x v hx => ?_) | simp -implicitDefEqProofs (maxSteps := 2000000) (disch := first | assumption | omega) [*, ])
  refine aWl_for (β := LV × List Nat) false l.length (fun k p => WAt v0 p.2 (bs ++ shortB l.length ++ (l.take k).flatMap shortB) p.1 (B + 9 + 9 * k)) (fun k p => [(10, .int .i64 k), (11, .any), (12, .any), (13, .any), (4, .any), (14, .any), (15, .any), (16, .any)]) (fun _ p => s.set id (.cells [p.1])) (fun _ p => p.2) ?_ ?_
  · exact ⟨(x, v), by simpa using hx, by (refine Fits.of ?_ (Off.refl _ _); simp [upd_apply, upds_cons]), rfl, rfl⟩
  rintro k ⟨x, v⟩ hk hx
  simp only at hx
  have hidu : ∀ a, (s.set id a)[id]? = some a := fun a => by simp [hid]
  have hset : ∀ a b, (s.set id a).set id b = s.set id b := fun a b => by simp
  by_cases hlt : k < l.length
  · have hn := hl k hlt
    repeat' (first | with_reducible refine br_t ?_ | with_reducible refine br_f ?_ | with_reducible refine br_dec (fun _ => ?_) (fun _ => ?_) | with_reducible refine g_dec (fun _ => ?_) (fun _ => ?_) | with_reducible refine g_ndec (fun _ => ?_) (fun _ => ?_) | with_reducible refine br_not (fun _ => ?_) (fun _ => ?_) | with_reducible refine br_split (fun _ => ?_) (fun _ => ?_) | with_reducible refine g_not (fun _ => ?_) (fun _ => ?_) | with_reducible refine g_split (fun _ => ?_) (fun _ => ?_) | with_reducible refine px_dec (fun _ => ?_) (fun _ => ?_) | with_reducible refine px_ndec (fun _ => ?_) (fun _ => ?_) | with_reducible refine px_split (fun _ => ?_) (fun _ => ?_) | with_reducible refine callW (wshort_c (x := x) (hidu _) hx (by omega) (by omega)) (fun y x v hx => ?_) | simp -implicitDefEqProofs (maxSteps := 2000000) (disch := first | assumption | omega) [*, ])
    refine ⟨hlt, (x, v), ?_, by (refine Fits.of ?_ ?_; rotate_left; (repeat (first | with_reducible exact Off.refl _ _ | refine Off.upd rfl ?_ | refine Off.updO rfl ?_ | refine Off.upds rfl ?_)); simp [upd_apply, upds_cons]), by simp, rfl⟩
    have e : B + 9 + 9 * k + 9 = B + 9 + 9 * (k + 1) := by omega
    rw [e] at hx
    simpa [take_succ_nth hlt] using hx
  · have : k = l.length := by omega
    subst this
    repeat' (first | with_reducible refine br_t ?_ | with_reducible refine br_f ?_ | with_reducible refine br_dec (fun _ => ?_) (fun _ => ?_) | with_reducible refine g_dec (fun _ => ?_) (fun _ => ?_) | with_reducible refine g_ndec (fun _ => ?_) (fun _ => ?_) | with_reducible refine br_not (fun _ => ?_) (fun _ => ?_) | with_reducible refine br_split (fun _ => ?_) (fun _ => ?_) | with_reducible refine g_not (fun _ => ?_) (fun _ => ?_) | with_reducible refine g_split (fun _ => ?_) (fun _ => ?_) | with_reducible refine px_dec (fun _ => ?_) (fun _ => ?_) | with_reducible refine px_ndec (fun _ => ?_) (fun _ => ?_) | with_reducible refine px_split (fun _ => ?_) (fun _ => ?_) | simp -implicitDefEqProofs (maxSteps := 2000000) (disch := first | assumption | omega) [*, ])
    exact ⟨x, rfl, by simpa [listB] using hx⟩
end Go.Hb
end

section
namespace Go.Hb
open Go Go.Proofs Go.RowKit
set_option maxRecDepth 100000
set_option maxHeartbeats 800000
attribute [-simp] aC aL aOper aThen aInBlock aIf aPlan aAppend aLen aIndexAddr aSlice aCells aBounds lBr aq initT aev aAppendOwn aAppendNil aAppendNew aAppendRef LV.cells LV.cellsOk getElem?_pos getElem?_neg

theorem u8_ofInt (z : Int) : ((UInt8.ofInt z).toNat : Int) = z % 256 := by
  unfold UInt8.ofInt
  simp
  omega
theorem u8_wrapI (z : Int) : IntKind.u8.wrap z = z % 256 := by
  simp [IntKind.wrap, IntKind.signed, IntKind.bits]
theorem u8_op (z : Int) : IntKind.u8.wrap z = ((UInt8.ofInt z).toNat : Int) := by rw [u8_ofInt, u8_wrapI]
theorem u8_op2 (z : Int) : z % 256 = ((UInt8.ofInt z).toNat : Int) := by rw [u8_ofInt]
theorem callV {P : Program} {f : FuncId} {args : List LV} {s : List AObj} {v : List Nat} {y : LV} {K : LV → List AObj → List Nat → Prop} (h : aCalls P f args s v fun x s' v' => y = x ∧ s = s' ∧ v <+: v') (k : ∀ v', v <+: v' → K y s v') : aCalls P f args s v K :=
  aCalls_mono h fun x s' v' ⟨e1, e2, e3⟩ => by subst e1; subst e2; exact k v' e3
theorem shortB_pos (n : Int) : 0 < (shortB n).length := by unfold shortB; rw [shortN]; split <;> simp
theorem WAt.up {v0 v : List Nat} {bs : List UInt8} {x : LV} {B B' : Nat} (h : WAt v0 v bs x B) (hb : B ≤ B') : WAt v0 v bs x B' := ⟨h.1, Nat.le_trans h.2 hb⟩
theorem WAt.eq {v0 v : List Nat} {bs bs' : List UInt8} {x : LV} {B B' : Nat} (h : WAt v0 v bs x B) (e : bs = bs') (hb : B ≤ B') : WAt v0 v bs' x B' := by subst e; exact h.up hb

theorem mayCh_facts {p : Prog} {l : List Int} (h : mayCh p l = true) (hc : p.chans.length ≤ 8) : l.length ≤ 8 ∧ ∀ k < l.length, nth l k ≤ 9223372036854775807 := by
  unfold mayCh allTo at h
  simp only [Bool.and_eq_true, decide_eq_true_eq, List.all_eq_true] at h
  obtain ⟨⟨⟨h1, _⟩, _⟩, h2⟩ := h
  refine ⟨h2, fun k hk => ?_⟩
  rw [nth_eq hk]
  have := (h1 _ (List.getElem_mem hk)).2
  omega
theorem allTo_facts {l : List Int} {to : Int} (h : allTo l to = true) (ht : to ≤ 1000) : ∀ k < l.length, nth l k ≤ 9223372036854775807 := by
  unfold allTo at h
  simp only [Bool.and_eq_true, decide_eq_true_eq, List.all_eq_true] at h
  intro k hk
  rw [nth_eq hk]
  have := (h _ (List.getElem_mem hk)).2
  omega

set_option maxHeartbeats 8000000 in
theorem cwrite_p {fs : List Fn_} {mu th : Int} {co se ch : List Int} {cho : List (List Int)} (hm : PureC Tryz.prog 28 [.agg [row fs, .int .i64 mu, row co, row se, row ch, row cho, .int .i64 th]] (.bool true)) (hp : mayP ⟨fs, mu, co, se, ch, cho, th⟩ = true) :
    PureC Tryz.prog 12 [.agg [row fs, .int .i64 mu, row co, row se, row ch, row cho, .int .i64 th]] (.tup [row (writeP ⟨fs, mu, co, se, ch, cho, th⟩), .int .i64 0]) := by
  obtain ⟨q1, q2, q3, q4, q5, q6, q7, q8, q9, q10, q11, q12, q13, q14⟩ : fs.length ≤ 16 ∧ mu ≤ 8 ∧ co.length ≤ 8 ∧ se.length ≤ 8 ∧ ch.length ≤ 8 ∧ cho.length ≤ 8 ∧ th ≤ 32 ∧ (∀ k < co.length, nth co k ≤ 9223372036854775807) ∧ (∀ k < se.length, nth se k ≤ 9223372036854775807) ∧ (∀ k < ch.length, nth ch k ≤ 9223372036854775807) ∧ (∀ k < cho.length, (nth cho k).length ≤ 8) ∧ (∀ k < cho.length, ∀ j < (nth cho k).length, nth (nth cho k) j ≤ 9223372036854775807) ∧ (∀ k < fs.length, (nth fs k).locals ≤ 8) ∧ (∀ k < fs.length, (nth fs k).code.length ≤ 64) := by
    unfold mayP at hp
    simp only [Bool.and_eq_true, decide_eq_true_eq] at hp
    obtain ⟨⟨⟨⟨⟨⟨⟨⟨⟨⟨⟨⟨⟨⟨p1, p2⟩, p3⟩, p4⟩, p5⟩, p6⟩, p7⟩, p8⟩, p9⟩, p10⟩, p11⟩, p12⟩, p13⟩, p14⟩, p15⟩ := hp
    refine ⟨p2, p4, p5, p6, p7, p8, p10, allTo_facts p11 (by omega), allTo_facts p12 (by omega), allTo_facts p13 (by omega), fun k hk => ?_, fun k hk => ?_, fun k hk => ?_, fun k hk => ?_⟩
    · rw [nth_eq hk]; exact (mayCh_facts (List.all_eq_true.1 p14 _ (List.getElem_mem hk)) p7).1
    · rw [nth_eq hk]; exact (mayCh_facts (List.all_eq_true.1 p14 _ (List.getElem_mem hk)) p7).2
    · have := List.all_eq_true.1 p15 _ (List.getElem_mem hk)
      unfold mayF at this
      simp only [Bool.and_eq_true, decide_eq_true_eq] at this
      rw [nth_eq hk]; omega
    · have := List.all_eq_true.1 p15 _ (List.getElem_mem hk)
      unfold mayF at this
      simp only [Bool.and_eq_true, decide_eq_true_eq] at this
      rw [nth_eq hk]; omega
  clear hp
  refine .of fun s v => ?_
  refine aCalls_go Tryz.func12 rfl (by decide) Tryz.ntmps12 (by simp) false ?_
  have hres : Tryz.f12.results = #[.tmp 2, .tmp 3] := rfl
  repeat' (first | with_reducible refine br_t ?_ | with_reducible refine br_f ?_ | with_reducible refine br_dec (fun _ => ?_) (fun _ => ?_) | with_reducible refine g_dec (fun _ => ?_) (fun _ => ?_) | with_reducible refine g_ndec (fun _ => ?_) (fun _ => ?_) | with_reducible refine br_not (fun _ => ?_) (fun _ => ?_) | with_reducible refine br_split (fun _ => ?_) (fun _ => ?_) | with_reducible refine g_not (fun _ => ?_) (fun _ => ?_) | with_reducible refine g_split (fun _ => ?_) (fun _ => ?_) | with_reducible refine px_dec (fun _ => ?_) (fun _ => ?_) | with_reducible refine px_ndec (fun _ => ?_) (fun _ => ?_) | with_reducible refine px_split (fun _ => ?_) (fun _ => ?_) | with_reducible refine callC hm (fun v1 hv1 => ?_) | simp -implicitDefEqProofs (maxSteps := 2000000) (disch := first | assumption | omega) [*, ])
  have hx : WAt v1 v1 [] .nils 0 := ⟨GroE.nil _, by simp⟩
  repeat' (first | with_reducible refine br_t ?_ | with_reducible refine br_f ?_ | with_reducible refine br_dec (fun _ => ?_) (fun _ => ?_) | with_reducible refine g_dec (fun _ => ?_) (fun _ => ?_) | with_reducible refine g_ndec (fun _ => ?_) (fun _ => ?_) | with_reducible refine br_not (fun _ => ?_) (fun _ => ?_) | with_reducible refine br_split (fun _ => ?_) (fun _ => ?_) | with_reducible refine g_not (fun _ => ?_) (fun _ => ?_) | with_reducible refine g_split (fun _ => ?_) (fun _ => ?_) | with_reducible refine px_dec (fun _ => ?_) (fun _ => ?_) | with_reducible refine px_ndec (fun _ => ?_) (fun _ => ?_) | with_reducible refine px_split (fun _ => ?_) (fun _ => ?_) | with_reducible refine callW (wshort_c (by simp [get_app]) hx (by omega) (by omega)) (fun y x v hx => ?_) | with_reducible refine callW (wlist_c (by simp [get_app]) hx (by assumption) (by omega) (by omega)) (fun y x v hx => ?_) | simp -implicitDefEqProofs (maxSteps := 2000000) (disch := first | assumption | omega) [*, ])
  refine aW_for (β := LV × List AObj × List Nat) true fs.length (fun k p => WAt v1 p.2.2 (shortB fs.length ++ (fs.take k).flatMap fnB) p.1 (9 + 700 * k)) (fun k p => [(23, .int .i64 k), (24, .any), (25, .any), (26, .any), (7, .any), (27, .any), (28, .any), (29, .any), (30, .any), (31, .any), (32, .any), (33, .any), (34, .any), (35, .any), (36, .any), (37, .any), (38, .any), (39, .any), (40, .any), (9, .any), (41, .any), (42, .any), (43, .any), (44, .any), (45, .any), (46, .any), (47, .any), (48, .any), (49, .any), (50, .any)]) (fun _ p => s ++ (.cells [row fs, .int .i64 mu, row co, row se, row ch, row cho, .int .i64 th] :: .cells [p.1] :: p.2.1)) (fun _ p => p.2.2) ?_ ?_
  · exact ⟨(x, [], v), hx.eq (by simp) (by omega), by (refine Fits.of ?_ (Off.refl _ _); simp [upd_apply, upds_cons]), rfl, rfl⟩
  rintro k ⟨x, J, v⟩ hk hx
  simp only at hx
  by_cases hlt : k < fs.length
  · have e1 := q13 k hlt
    have e2 := q14 k hlt
    repeat' (first | with_reducible refine br_t ?_ | with_reducible refine br_f ?_ | with_reducible refine br_dec (fun _ => ?_) (fun _ => ?_) | with_reducible refine g_dec (fun _ => ?_) (fun _ => ?_) | with_reducible refine g_ndec (fun _ => ?_) (fun _ => ?_) | with_reducible refine br_not (fun _ => ?_) (fun _ => ?_) | with_reducible refine br_split (fun _ => ?_) (fun _ => ?_) | with_reducible refine g_not (fun _ => ?_) (fun _ => ?_) | with_reducible refine g_split (fun _ => ?_) (fun _ => ?_) | with_reducible refine px_dec (fun _ => ?_) (fun _ => ?_) | with_reducible refine px_ndec (fun _ => ?_) (fun _ => ?_) | with_reducible refine px_split (fun _ => ?_) (fun _ => ?_) | with_reducible refine callW (wshort_c (by simp [get_app]) hx (by omega) (by omega)) (fun y x v hx => ?_) | with_reducible refine callW (wlist_c (by simp [get_app]) hx (by assumption) (by omega) (by omega)) (fun y x v hx => ?_) | simp -implicitDefEqProofs (maxSteps := 2000000) (disch := first | assumption | omega) [*, ])
    refine aWl_for (β := LV × List AObj × List Nat) true (nth fs k).code.length (fun j p => WAt v1 p.2.2 (shortB fs.length ++ (fs.take k).flatMap fnB ++ (shortB (nth fs k).locals ++ shortB (nth fs k).code.length ++ ((nth fs k).code.take j).flatMap insB)) p.1 (9 + 700 * k + 18 + 10 * j)) (fun j p => [(37, .int .i64 j), (38, .any), (39, .any), (40, .any), (9, .any), (41, .any), (42, .any), (43, .any), (44, .any), (45, .any), (46, .any), (47, .any), (48, .any), (49, .any)]) (fun _ p => s ++ (.cells [row fs, .int .i64 mu, row co, row se, row ch, row cho, .int .i64 th] :: .cells [p.1] :: p.2.1)) (fun _ p => p.2.2) ?_ ?_
    · exact ⟨(_, _, _), hx.eq (by simp) (by omega), by (refine Fits.of ?_ (Off.refl _ _); simp [upd_apply, upds_cons]), rfl, rfl⟩
    rintro j ⟨x, J', v⟩ hj hx
    simp only at hx
    by_cases hjl : j < (nth fs k).code.length
    · repeat' (first | with_reducible refine br_t ?_ | with_reducible refine br_f ?_ | with_reducible refine br_dec (fun _ => ?_) (fun _ => ?_) | with_reducible refine g_dec (fun _ => ?_) (fun _ => ?_) | with_reducible refine g_ndec (fun _ => ?_) (fun _ => ?_) | with_reducible refine br_not (fun _ => ?_) (fun _ => ?_) | with_reducible refine br_split (fun _ => ?_) (fun _ => ?_) | with_reducible refine g_not (fun _ => ?_) (fun _ => ?_) | with_reducible refine g_split (fun _ => ?_) (fun _ => ?_) | with_reducible refine px_dec (fun _ => ?_) (fun _ => ?_) | with_reducible refine px_ndec (fun _ => ?_) (fun _ => ?_) | with_reducible refine px_split (fun _ => ?_) (fun _ => ?_) | with_reducible refine callW (wraw_c (b := UInt8.ofInt (nth (nth fs k).code j).op) (by simp [get_app]) hx (by first | exact u8_op _ | exact u8_op2 _) (by omega)) (fun y x v hx => ?_) | with_reducible refine callW (wsigned_c (by simp [get_app]) hx (by omega)) (fun y x v hx => ?_) | simp -implicitDefEqProofs (maxSteps := 2000000) (disch := first | assumption | omega) [*, ])
      refine ⟨hjl, (_, _, _), hx.eq (by simp [take_succ_nth hjl, insB]) (by omega), by (refine Fits.of ?_ ?_; rotate_left; (repeat (first | with_reducible exact Off.refl _ _ | refine Off.upd rfl ?_ | refine Off.updO rfl ?_ | refine Off.upds rfl ?_)); simp [upd_apply, upds_cons]), rfl, rfl⟩
    · have : j = (nth fs k).code.length := by omega
      subst this
      repeat' (first | with_reducible refine br_t ?_ | with_reducible refine br_f ?_ | with_reducible refine br_dec (fun _ => ?_) (fun _ => ?_) | with_reducible refine g_dec (fun _ => ?_) (fun _ => ?_) | with_reducible refine g_ndec (fun _ => ?_) (fun _ => ?_) | with_reducible refine br_not (fun _ => ?_) (fun _ => ?_) | with_reducible refine br_split (fun _ => ?_) (fun _ => ?_) | with_reducible refine g_not (fun _ => ?_) (fun _ => ?_) | with_reducible refine g_split (fun _ => ?_) (fun _ => ?_) | with_reducible refine px_dec (fun _ => ?_) (fun _ => ?_) | with_reducible refine px_ndec (fun _ => ?_) (fun _ => ?_) | with_reducible refine px_split (fun _ => ?_) (fun _ => ?_) | simp -implicitDefEqProofs (maxSteps := 2000000) (disch := first | assumption | omega) [*, ])
      refine ⟨hlt, (_, _, _), hx.eq (by simp [take_succ_nth hlt, fnB]) (by omega), by (refine Fits.of ?_ ?_; rotate_left; (repeat (first | with_reducible exact Off.refl _ _ | refine Off.upd rfl ?_ | refine Off.updO rfl ?_ | refine Off.upds rfl ?_)); simp [upd_apply, upds_cons]), rfl, rfl⟩
  · have : k = fs.length := by omega
    subst this
    repeat' (first | with_reducible refine br_t ?_ | with_reducible refine br_f ?_ | with_reducible refine br_dec (fun _ => ?_) (fun _ => ?_) | with_reducible refine g_dec (fun _ => ?_) (fun _ => ?_) | with_reducible refine g_ndec (fun _ => ?_) (fun _ => ?_) | with_reducible refine br_not (fun _ => ?_) (fun _ => ?_) | with_reducible refine br_split (fun _ => ?_) (fun _ => ?_) | with_reducible refine g_not (fun _ => ?_) (fun _ => ?_) | with_reducible refine g_split (fun _ => ?_) (fun _ => ?_) | with_reducible refine px_dec (fun _ => ?_) (fun _ => ?_) | with_reducible refine px_ndec (fun _ => ?_) (fun _ => ?_) | with_reducible refine px_split (fun _ => ?_) (fun _ => ?_) | with_reducible refine callW (wshort_c (by simp [get_app]) hx (by omega) (by omega)) (fun y x v hx => ?_) | with_reducible refine callW (wlist_c (by simp [get_app]) hx (by assumption) (by omega) (by omega)) (fun y x v hx => ?_) | simp -implicitDefEqProofs (maxSteps := 2000000) (disch := first | assumption | omega) [*, ])
    obtain ⟨B, hB, hx⟩ : ∃ B, B ≤ 12000 ∧ WAt v1 v (shortB fs.length ++ fs.flatMap fnB ++ shortB mu ++ listB co ++ listB se ++ listB ch ++ shortB cho.length) x B := ⟨_, by omega, hx.eq (by simp) (Nat.le_refl _)⟩
    refine aW_for (β := LV × List Nat) false cho.length (fun k p => WAt v1 p.2 (shortB fs.length ++ fs.flatMap fnB ++ shortB mu ++ listB co ++ listB se ++ listB ch ++ (shortB cho.length ++ (cho.take k).flatMap listB)) p.1 (B + 90 * k)) (fun k p => [(73, .int .i64 k), (74, .any), (75, .any), (76, .any), (11, .any), (77, .any), (78, .any), (79, .any), (80, .any)]) (fun _ p => s ++ (.cells [row fs, .int .i64 mu, row co, row se, row ch, row cho, .int .i64 th] :: .cells [p.1] :: J)) (fun _ p => p.2) ?_ ?_
    · exact ⟨(_, _), hx.eq (by simp) (by omega), by (refine Fits.of ?_ (Off.refl _ _); simp [upd_apply, upds_cons]), rfl, rfl⟩
    rintro k ⟨x, v⟩ hk hx
    simp only at hx
    by_cases hlt : k < cho.length
    · have e1 := q11 k hlt
      have e2 := q12 k hlt
      repeat' (first | with_reducible refine br_t ?_ | with_reducible refine br_f ?_ | with_reducible refine br_dec (fun _ => ?_) (fun _ => ?_) | with_reducible refine g_dec (fun _ => ?_) (fun _ => ?_) | with_reducible refine g_ndec (fun _ => ?_) (fun _ => ?_) | with_reducible refine br_not (fun _ => ?_) (fun _ => ?_) | with_reducible refine br_split (fun _ => ?_) (fun _ => ?_) | with_reducible refine g_not (fun _ => ?_) (fun _ => ?_) | with_reducible refine g_split (fun _ => ?_) (fun _ => ?_) | with_reducible refine px_dec (fun _ => ?_) (fun _ => ?_) | with_reducible refine px_ndec (fun _ => ?_) (fun _ => ?_) | with_reducible refine px_split (fun _ => ?_) (fun _ => ?_) | with_reducible refine callW (wshort_c (by simp [get_app]) hx (by omega) (by omega)) (fun y x v hx => ?_) | with_reducible refine callW (wlist_c (by simp [get_app]) hx (by assumption) (by omega) (by omega)) (fun y x v hx => ?_) | simp -implicitDefEqProofs (maxSteps := 2000000) (disch := first | assumption | omega) [*, ])
      refine ⟨hlt, (_, _), hx.eq (by simp [take_succ_nth hlt]) (by omega), by (refine Fits.of ?_ ?_; rotate_left; (repeat (first | with_reducible exact Off.refl _ _ | refine Off.upd rfl ?_ | refine Off.updO rfl ?_ | refine Off.upds rfl ?_)); simp [upd_apply, upds_cons]), rfl, rfl⟩
    · have : k = cho.length := by omega
      subst this
      have hpos : ∀ l : List UInt8, (l ++ shortB th).length ≠ 0 := fun l => by rw [List.length_append]; have := shortB_pos th; omega
      repeat' (first | with_reducible refine br_t ?_ | with_reducible refine br_f ?_ | with_reducible refine br_dec (fun _ => ?_) (fun _ => ?_) | with_reducible refine g_dec (fun _ => ?_) (fun _ => ?_) | with_reducible refine g_ndec (fun _ => ?_) (fun _ => ?_) | with_reducible refine br_not (fun _ => ?_) (fun _ => ?_) | with_reducible refine br_split (fun _ => ?_) (fun _ => ?_) | with_reducible refine g_not (fun _ => ?_) (fun _ => ?_) | with_reducible refine g_split (fun _ => ?_) (fun _ => ?_) | with_reducible refine px_dec (fun _ => ?_) (fun _ => ?_) | with_reducible refine px_ndec (fun _ => ?_) (fun _ => ?_) | with_reducible refine px_split (fun _ => ?_) (fun _ => ?_) | with_reducible refine callW (wshort_c (by simp [get_app]) hx (by omega) (by omega)) (fun y x v hx => ?_) | with_reducible refine callV (wbytes_c (by simp [get_app]) hx (hpos _) (by omega)) (fun v2 hv2 => ?_) | simp -implicitDefEqProofs (maxSteps := 2000000) (disch := first | assumption | omega) [*, ])
      exact Ends.eqat (by simp [writeP]) (by simp) ((hv1.trans hx.1.1).trans hv2)
end Go.Hb
end

