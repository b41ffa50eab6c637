/-
  A layer for reasoning about the program's calls, and contracts of its functions (F). CONDITIONS: none; each theorem bears its own.
-/
import Derived.Test.YtcpmmldgimhppaaGreatA
import Derived.Test.YtcpmmldgimhppaaGreatL8
set_option linter.unusedVariables false
set_option linter.unusedSimpArgs false
section
namespace Go.Hb
open Go Go.Proofs Go.RowKit
set_option maxRecDepth 100000
set_option maxHeartbeats 800000
attribute [-simp] aC aL aOper aThen aInBlock aIf aPlan aAppend aLen aIndexAddr aSlice aCells aBounds lBr aq initT aev aAppendOwn aAppendNil aAppendNew aAppendRef LV.cells LV.cellsOk getElem?_pos getElem?_neg


theorem indexFunc_int {l : List Int} {p : Int → Bool} {g : FuncId} {ca : List LV} {s : List AObj} (hb : l.length ≤ 9223372036854775807) (h : ∀ k, k < l.length → Ret Tryz.prog g (.int .i64 (nth l k) :: ca) s (.bool (p (nth l k)))) :
    Ret Tryz.prog 90 [row l, .fn (.func g) [] ca] s (.int .i64 (fidx p l)) := by
  refine .of fun v => ?_
  refine aCalls_go Tryz.func90 rfl (by decide) Tryz.ntmps90 (by simp) false ?_
  have hres : Tryz.f90.results = #[.tmp 4] := rfl
  repeat' (first | with_reducible refine br_t ?_ | with_reducible refine br_f ?_ | with_reducible refine br_dec (fun _ => ?_) (fun _ => ?_) | with_reducible refine g_dec (fun _ => ?_) (fun _ => ?_) | with_reducible refine g_ndec (fun _ => ?_) (fun _ => ?_) | with_reducible refine br_not (fun _ => ?_) (fun _ => ?_) | with_reducible refine br_split (fun _ => ?_) (fun _ => ?_) | with_reducible refine g_not (fun _ => ?_) (fun _ => ?_) | with_reducible refine g_split (fun _ => ?_) (fun _ => ?_) | with_reducible refine px_dec (fun _ => ?_) (fun _ => ?_) | with_reducible refine px_ndec (fun _ => ?_) (fun _ => ?_) | with_reducible refine px_split (fun _ => ?_) (fun _ => ?_) | simp -implicitDefEqProofs (maxSteps := 2000000) (disch := first | assumption | omega) [*, ])
  refine aW_for (β := List Nat) false l.length (fun k v1 => v <+: v1 ∧ ∀ j, j < k → p (nth l j) = false) (fun k _ => [(8, .int .i64 k), (9, .any), (10, .any), (5, .any), (11, .any), (12, .any), (13, .any), (14, .any), (15, .any), (16, .any), (17, .any), (4, .any), (18, .any)]) (fun _ _ => s) (fun _ v1 => v1) ?_ ?_
  · exact ⟨v, ⟨List.prefix_refl _, by simp⟩, by (refine Fits.of ?_ (Off.refl _ _); simp [upd_apply, upds_cons]), rfl, rfl⟩
  rintro k v1 hk ⟨hv, hI⟩
  by_cases hlt : k < l.length
  · have hh := h k hlt
    cases hp : p (nth l k)
    · rw [hp] at hh
      repeat' (first | with_reducible refine br_t ?_ | with_reducible refine br_f ?_ | with_reducible refine br_dec (fun _ => ?_) (fun _ => ?_) | with_reducible refine g_dec (fun _ => ?_) (fun _ => ?_) | with_reducible refine g_ndec (fun _ => ?_) (fun _ => ?_) | with_reducible refine br_not (fun _ => ?_) (fun _ => ?_) | with_reducible refine br_split (fun _ => ?_) (fun _ => ?_) | with_reducible refine g_not (fun _ => ?_) (fun _ => ?_) | with_reducible refine g_split (fun _ => ?_) (fun _ => ?_) | with_reducible refine px_dec (fun _ => ?_) (fun _ => ?_) | with_reducible refine px_ndec (fun _ => ?_) (fun _ => ?_) | with_reducible refine px_split (fun _ => ?_) (fun _ => ?_) | with_reducible refine callR hh (fun v2 hv2 => ?_) | simp -implicitDefEqProofs (maxSteps := 2000000) (disch := first | assumption | omega) [*, ])
      exact ⟨hlt, v2, ⟨hv.trans hv2, fun j hj => by
        by_cases e : j = k
        · subst e; exact hp
        · exact hI j (by omega)⟩, by (refine Fits.of ?_ ?_; rotate_left; (repeat (first | with_reducible exact Off.refl _ _ | refine Off.upd rfl ?_ | refine Off.updO rfl ?_ | refine Off.upds rfl ?_)); simp [upd_apply, upds_cons]), rfl, rfl⟩
    · rw [hp] at hh
      have hf := fidx_at hlt hI hp
      repeat' (first | with_reducible refine br_t ?_ | with_reducible refine br_f ?_ | with_reducible refine br_dec (fun _ => ?_) (fun _ => ?_) | with_reducible refine g_dec (fun _ => ?_) (fun _ => ?_) | with_reducible refine g_ndec (fun _ => ?_) (fun _ => ?_) | with_reducible refine br_not (fun _ => ?_) (fun _ => ?_) | with_reducible refine br_split (fun _ => ?_) (fun _ => ?_) | with_reducible refine g_not (fun _ => ?_) (fun _ => ?_) | with_reducible refine g_split (fun _ => ?_) (fun _ => ?_) | with_reducible refine px_dec (fun _ => ?_) (fun _ => ?_) | with_reducible refine px_ndec (fun _ => ?_) (fun _ => ?_) | with_reducible refine px_split (fun _ => ?_) (fun _ => ?_) | with_reducible refine callR hh (fun v2 hv2 => ?_) | simp -implicitDefEqProofs (maxSteps := 2000000) (disch := first | assumption | omega) [*, ])
      exact Ends.eq rfl (by simp) (hv.trans hv2)
  · have hf := fidx_none (p := p) (l := l) (fun j hj => hI j (by omega))
    have : k = l.length := by omega
    subst this
    repeat' (first | with_reducible refine br_t ?_ | with_reducible refine br_f ?_ | with_reducible refine br_dec (fun _ => ?_) (fun _ => ?_) | with_reducible refine g_dec (fun _ => ?_) (fun _ => ?_) | with_reducible refine g_ndec (fun _ => ?_) (fun _ => ?_) | with_reducible refine br_not (fun _ => ?_) (fun _ => ?_) | with_reducible refine br_split (fun _ => ?_) (fun _ => ?_) | with_reducible refine g_not (fun _ => ?_) (fun _ => ?_) | with_reducible refine g_split (fun _ => ?_) (fun _ => ?_) | with_reducible refine px_dec (fun _ => ?_) (fun _ => ?_) | with_reducible refine px_ndec (fun _ => ?_) (fun _ => ?_) | with_reducible refine px_split (fun _ => ?_) (fun _ => ?_) | simp -implicitDefEqProofs (maxSteps := 2000000) (disch := first | assumption | omega) [*, ])
    exact Ends.eq rfl (by simp) hv
theorem containsFunc_int {l : List Int} {p : Int → Bool} {g : FuncId} {ca : List LV} {s : List AObj} (hb : l.length ≤ 9223372036854775807) (h : ∀ k, k < l.length → Ret Tryz.prog g (.int .i64 (nth l k) :: ca) s (.bool (p (nth l k)))) :
    Ret Tryz.prog 79 [row l, .fn (.func g) [] ca] s (.bool (l.any p)) := by
  refine .of fun v => ?_
  refine aCalls_go Tryz.func79 rfl (by decide) Tryz.ntmps79 (by simp) false ?_
  have hres : Tryz.f79.results = #[.tmp 4] := rfl
  have hi := indexFunc_int hb h
  rw [← fidx_any p l]
  repeat' (first | with_reducible refine br_t ?_ | with_reducible refine br_f ?_ | with_reducible refine br_dec (fun _ => ?_) (fun _ => ?_) | with_reducible refine g_dec (fun _ => ?_) (fun _ => ?_) | with_reducible refine g_ndec (fun _ => ?_) (fun _ => ?_) | with_reducible refine br_not (fun _ => ?_) (fun _ => ?_) | with_reducible refine br_split (fun _ => ?_) (fun _ => ?_) | with_reducible refine g_not (fun _ => ?_) (fun _ => ?_) | with_reducible refine g_split (fun _ => ?_) (fun _ => ?_) | with_reducible refine px_dec (fun _ => ?_) (fun _ => ?_) | with_reducible refine px_ndec (fun _ => ?_) (fun _ => ?_) | with_reducible refine px_split (fun _ => ?_) (fun _ => ?_) | with_reducible refine callR hi (fun v2 hv2 => ?_) | simp -implicitDefEqProofs (maxSteps := 2000000) (disch := first | assumption | omega) [*, ])
  exact Ends.eq rfl (by simp) hv2

theorem indexFunc_ints {l : List (List Int)} {p : (List Int) → Bool} {g : FuncId} {ca : List LV} {s : List AObj} (hb : l.length ≤ 9223372036854775807) (h : ∀ k, k < l.length → Ret Tryz.prog g (row (nth l k) :: ca) s (.bool (p (nth l k)))) :
    Ret Tryz.prog 81 [row l, .fn (.func g) [] ca] s (.int .i64 (fidx p l)) := by
  refine .of fun v => ?_
  refine aCalls_go Tryz.func81 rfl (by decide) Tryz.ntmps81 (by simp) false ?_
  have hres : Tryz.f81.results = #[.tmp 4] := rfl
  repeat' (first | with_reducible refine br_t ?_ | with_reducible refine br_f ?_ | with_reducible refine br_dec (fun _ => ?_) (fun _ => ?_) | with_reducible refine g_dec (fun _ => ?_) (fun _ => ?_) | with_reducible refine g_ndec (fun _ => ?_) (fun _ => ?_) | with_reducible refine br_not (fun _ => ?_) (fun _ => ?_) | with_reducible refine br_split (fun _ => ?_) (fun _ => ?_) | with_reducible refine g_not (fun _ => ?_) (fun _ => ?_) | with_reducible refine g_split (fun _ => ?_) (fun _ => ?_) | with_reducible refine px_dec (fun _ => ?_) (fun _ => ?_) | with_reducible refine px_ndec (fun _ => ?_) (fun _ => ?_) | with_reducible refine px_split (fun _ => ?_) (fun _ => ?_) | simp -implicitDefEqProofs (maxSteps := 2000000) (disch := first | assumption | omega) [*, ])
  refine aW_for (β := List Nat) false l.length (fun k v1 => v <+: v1 ∧ ∀ j, j < k → p (nth l j) = false) (fun k _ => [(8, .int .i64 k), (9, .any), (10, .any), (5, .any), (11, .any), (12, .any), (13, .any), (14, .any), (15, .any), (16, .any), (17, .any), (4, .any), (18, .any)]) (fun _ _ => s) (fun _ v1 => v1) ?_ ?_
  · exact ⟨v, ⟨List.prefix_refl _, by simp⟩, by (refine Fits.of ?_ (Off.refl _ _); simp [upd_apply, upds_cons]), rfl, rfl⟩
  rintro k v1 hk ⟨hv, hI⟩
  by_cases hlt : k < l.length
  · have hh := h k hlt
    cases hp : p (nth l k)
    · rw [hp] at hh
      repeat' (first | with_reducible refine br_t ?_ | with_reducible refine br_f ?_ | with_reducible refine br_dec (fun _ => ?_) (fun _ => ?_) | with_reducible refine g_dec (fun _ => ?_) (fun _ => ?_) | with_reducible refine g_ndec (fun _ => ?_) (fun _ => ?_) | with_reducible refine br_not (fun _ => ?_) (fun _ => ?_) | with_reducible refine br_split (fun _ => ?_) (fun _ => ?_) | with_reducible refine g_not (fun _ => ?_) (fun _ => ?_) | with_reducible refine g_split (fun _ => ?_) (fun _ => ?_) | with_reducible refine px_dec (fun _ => ?_) (fun _ => ?_) | with_reducible refine px_ndec (fun _ => ?_) (fun _ => ?_) | with_reducible refine px_split (fun _ => ?_) (fun _ => ?_) | with_reducible refine callR hh (fun v2 hv2 => ?_) | simp -implicitDefEqProofs (maxSteps := 2000000) (disch := first | assumption | omega) [*, ])
      exact ⟨hlt, v2, ⟨hv.trans hv2, fun j hj => by
        by_cases e : j = k
        · subst e; exact hp
        · exact hI j (by omega)⟩, by (refine Fits.of ?_ ?_; rotate_left; (repeat (first | with_reducible exact Off.refl _ _ | refine Off.upd rfl ?_ | refine Off.updO rfl ?_ | refine Off.upds rfl ?_)); simp [upd_apply, upds_cons]), rfl, rfl⟩
    · rw [hp] at hh
      have hf := fidx_at hlt hI hp
      repeat' (first | with_reducible refine br_t ?_ | with_reducible refine br_f ?_ | with_reducible refine br_dec (fun _ => ?_) (fun _ => ?_) | with_reducible refine g_dec (fun _ => ?_) (fun _ => ?_) | with_reducible refine g_ndec (fun _ => ?_) (fun _ => ?_) | with_reducible refine br_not (fun _ => ?_) (fun _ => ?_) | with_reducible refine br_split (fun _ => ?_) (fun _ => ?_) | with_reducible refine g_not (fun _ => ?_) (fun _ => ?_) | with_reducible refine g_split (fun _ => ?_) (fun _ => ?_) | with_reducible refine px_dec (fun _ => ?_) (fun _ => ?_) | with_reducible refine px_ndec (fun _ => ?_) (fun _ => ?_) | with_reducible refine px_split (fun _ => ?_) (fun _ => ?_) | with_reducible refine callR hh (fun v2 hv2 => ?_) | simp -implicitDefEqProofs (maxSteps := 2000000) (disch := first | assumption | omega) [*, ])
      exact Ends.eq rfl (by simp) (hv.trans hv2)
  · have hf := fidx_none (p := p) (l := l) (fun j hj => hI j (by omega))
    have : k = l.length := by omega
    subst this
    repeat' (first | with_reducible refine br_t ?_ | with_reducible refine br_f ?_ | with_reducible refine br_dec (fun _ => ?_) (fun _ => ?_) | with_reducible refine g_dec (fun _ => ?_) (fun _ => ?_) | with_reducible refine g_ndec (fun _ => ?_) (fun _ => ?_) | with_reducible refine br_not (fun _ => ?_) (fun _ => ?_) | with_reducible refine br_split (fun _ => ?_) (fun _ => ?_) | with_reducible refine g_not (fun _ => ?_) (fun _ => ?_) | with_reducible refine g_split (fun _ => ?_) (fun _ => ?_) | with_reducible refine px_dec (fun _ => ?_) (fun _ => ?_) | with_reducible refine px_ndec (fun _ => ?_) (fun _ => ?_) | with_reducible refine px_split (fun _ => ?_) (fun _ => ?_) | simp -implicitDefEqProofs (maxSteps := 2000000) (disch := first | assumption | omega) [*, ])
    exact Ends.eq rfl (by simp) hv
theorem containsFunc_ints {l : List (List Int)} {p : (List Int) → Bool} {g : FuncId} {ca : List LV} {s : List AObj} (hb : l.length ≤ 9223372036854775807) (h : ∀ k, k < l.length → Ret Tryz.prog g (row (nth l k) :: ca) s (.bool (p (nth l k)))) :
    Ret Tryz.prog 62 [row l, .fn (.func g) [] ca] s (.bool (l.any p)) := by
  refine .of fun v => ?_
  refine aCalls_go Tryz.func62 rfl (by decide) Tryz.ntmps62 (by simp) false ?_
  have hres : Tryz.f62.results = #[.tmp 4] := rfl
  have hi := indexFunc_ints hb h
  rw [← fidx_any p l]
  repeat' (first | with_reducible refine br_t ?_ | with_reducible refine br_f ?_ | with_reducible refine br_dec (fun _ => ?_) (fun _ => ?_) | with_reducible refine g_dec (fun _ => ?_) (fun _ => ?_) | with_reducible refine g_ndec (fun _ => ?_) (fun _ => ?_) | with_reducible refine br_not (fun _ => ?_) (fun _ => ?_) | with_reducible refine br_split (fun _ => ?_) (fun _ => ?_) | with_reducible refine g_not (fun _ => ?_) (fun _ => ?_) | with_reducible refine g_split (fun _ => ?_) (fun _ => ?_) | with_reducible refine px_dec (fun _ => ?_) (fun _ => ?_) | with_reducible refine px_ndec (fun _ => ?_) (fun _ => ?_) | with_reducible refine px_split (fun _ => ?_) (fun _ => ?_) | with_reducible refine callR hi (fun v2 hv2 => ?_) | simp -implicitDefEqProofs (maxSteps := 2000000) (disch := first | assumption | omega) [*, ])
  exact Ends.eq rfl (by simp) hv2

theorem indexFunc_fn {l : List Fn_} {p : Fn_ → Bool} {g : FuncId} {ca : List LV} {s : List AObj} (hb : l.length ≤ 9223372036854775807) (h : ∀ k, k < l.length → Ret Tryz.prog g (.agg [.int .i64 (nth l k).locals, row (nth l k).code] :: ca) s (.bool (p (nth l k)))) :
    Ret Tryz.prog 84 [row l, .fn (.func g) [] ca] s (.int .i64 (fidx p l)) := by
  refine .of fun v => ?_
  refine aCalls_go Tryz.func84 rfl (by decide) Tryz.ntmps84 (by simp) false ?_
  have hres : Tryz.f84.results = #[.tmp 4] := rfl
  repeat' (first | with_reducible refine br_t ?_ | with_reducible refine br_f ?_ | with_reducible refine br_dec (fun _ => ?_) (fun _ => ?_) | with_reducible refine g_dec (fun _ => ?_) (fun _ => ?_) | with_reducible refine g_ndec (fun _ => ?_) (fun _ => ?_) | with_reducible refine br_not (fun _ => ?_) (fun _ => ?_) | with_reducible refine br_split (fun _ => ?_) (fun _ => ?_) | with_reducible refine g_not (fun _ => ?_) (fun _ => ?_) | with_reducible refine g_split (fun _ => ?_) (fun _ => ?_) | with_reducible refine px_dec (fun _ => ?_) (fun _ => ?_) | with_reducible refine px_ndec (fun _ => ?_) (fun _ => ?_) | with_reducible refine px_split (fun _ => ?_) (fun _ => ?_) | simp -implicitDefEqProofs (maxSteps := 2000000) (disch := first | assumption | omega) [*, ])
  refine aW_for (β := List Nat) false l.length (fun k v1 => v <+: v1 ∧ ∀ j, j < k → p (nth l j) = false) (fun k _ => [(8, .int .i64 k), (9, .any), (10, .any), (5, .any), (11, .any), (12, .any), (13, .any), (14, .any), (15, .any), (16, .any), (17, .any), (4, .any), (18, .any)]) (fun _ _ => s) (fun _ v1 => v1) ?_ ?_
  · exact ⟨v, ⟨List.prefix_refl _, by simp⟩, by (refine Fits.of ?_ (Off.refl _ _); simp [upd_apply, upds_cons]), rfl, rfl⟩
  rintro k v1 hk ⟨hv, hI⟩
  by_cases hlt : k < l.length
  · have hh := h k hlt
    cases hp : p (nth l k)
    · rw [hp] at hh
      repeat' (first | with_reducible refine br_t ?_ | with_reducible refine br_f ?_ | with_reducible refine br_dec (fun _ => ?_) (fun _ => ?_) | with_reducible refine g_dec (fun _ => ?_) (fun _ => ?_) | with_reducible refine g_ndec (fun _ => ?_) (fun _ => ?_) | with_reducible refine br_not (fun _ => ?_) (fun _ => ?_) | with_reducible refine br_split (fun _ => ?_) (fun _ => ?_) | with_reducible refine g_not (fun _ => ?_) (fun _ => ?_) | with_reducible refine g_split (fun _ => ?_) (fun _ => ?_) | with_reducible refine px_dec (fun _ => ?_) (fun _ => ?_) | with_reducible refine px_ndec (fun _ => ?_) (fun _ => ?_) | with_reducible refine px_split (fun _ => ?_) (fun _ => ?_) | with_reducible refine callR hh (fun v2 hv2 => ?_) | simp -implicitDefEqProofs (maxSteps := 2000000) (disch := first | assumption | omega) [*, ])
      exact ⟨hlt, v2, ⟨hv.trans hv2, fun j hj => by
        by_cases e : j = k
        · subst e; exact hp
        · exact hI j (by omega)⟩, by (refine Fits.of ?_ ?_; rotate_left; (repeat (first | with_reducible exact Off.refl _ _ | refine Off.upd rfl ?_ | refine Off.updO rfl ?_ | refine Off.upds rfl ?_)); simp [upd_apply, upds_cons]), rfl, rfl⟩
    · rw [hp] at hh
      have hf := fidx_at hlt hI hp
      repeat' (first | with_reducible refine br_t ?_ | with_reducible refine br_f ?_ | with_reducible refine br_dec (fun _ => ?_) (fun _ => ?_) | with_reducible refine g_dec (fun _ => ?_) (fun _ => ?_) | with_reducible refine g_ndec (fun _ => ?_) (fun _ => ?_) | with_reducible refine br_not (fun _ => ?_) (fun _ => ?_) | with_reducible refine br_split (fun _ => ?_) (fun _ => ?_) | with_reducible refine g_not (fun _ => ?_) (fun _ => ?_) | with_reducible refine g_split (fun _ => ?_) (fun _ => ?_) | with_reducible refine px_dec (fun _ => ?_) (fun _ => ?_) | with_reducible refine px_ndec (fun _ => ?_) (fun _ => ?_) | with_reducible refine px_split (fun _ => ?_) (fun _ => ?_) | with_reducible refine callR hh (fun v2 hv2 => ?_) | simp -implicitDefEqProofs (maxSteps := 2000000) (disch := first | assumption | omega) [*, ])
      exact Ends.eq rfl (by simp) (hv.trans hv2)
  · have hf := fidx_none (p := p) (l := l) (fun j hj => hI j (by omega))
    have : k = l.length := by omega
    subst this
    repeat' (first | with_reducible refine br_t ?_ | with_reducible refine br_f ?_ | with_reducible refine br_dec (fun _ => ?_) (fun _ => ?_) | with_reducible refine g_dec (fun _ => ?_) (fun _ => ?_) | with_reducible refine g_ndec (fun _ => ?_) (fun _ => ?_) | with_reducible refine br_not (fun _ => ?_) (fun _ => ?_) | with_reducible refine br_split (fun _ => ?_) (fun _ => ?_) | with_reducible refine g_not (fun _ => ?_) (fun _ => ?_) | with_reducible refine g_split (fun _ => ?_) (fun _ => ?_) | with_reducible refine px_dec (fun _ => ?_) (fun _ => ?_) | with_reducible refine px_ndec (fun _ => ?_) (fun _ => ?_) | with_reducible refine px_split (fun _ => ?_) (fun _ => ?_) | simp -implicitDefEqProofs (maxSteps := 2000000) (disch := first | assumption | omega) [*, ])
    exact Ends.eq rfl (by simp) hv
theorem containsFunc_fn {l : List Fn_} {p : Fn_ → Bool} {g : FuncId} {ca : List LV} {s : List AObj} (hb : l.length ≤ 9223372036854775807) (h : ∀ k, k < l.length → Ret Tryz.prog g (.agg [.int .i64 (nth l k).locals, row (nth l k).code] :: ca) s (.bool (p (nth l k)))) :
    Ret Tryz.prog 65 [row l, .fn (.func g) [] ca] s (.bool (l.any p)) := by
  refine .of fun v => ?_
  refine aCalls_go Tryz.func65 rfl (by decide) Tryz.ntmps65 (by simp) false ?_
  have hres : Tryz.f65.results = #[.tmp 4] := rfl
  have hi := indexFunc_fn hb h
  rw [← fidx_any p l]
  repeat' (first | with_reducible refine br_t ?_ | with_reducible refine br_f ?_ | with_reducible refine br_dec (fun _ => ?_) (fun _ => ?_) | with_reducible refine g_dec (fun _ => ?_) (fun _ => ?_) | with_reducible refine g_ndec (fun _ => ?_) (fun _ => ?_) | with_reducible refine br_not (fun _ => ?_) (fun _ => ?_) | with_reducible refine br_split (fun _ => ?_) (fun _ => ?_) | with_reducible refine g_not (fun _ => ?_) (fun _ => ?_) | with_reducible refine g_split (fun _ => ?_) (fun _ => ?_) | with_reducible refine px_dec (fun _ => ?_) (fun _ => ?_) | with_reducible refine px_ndec (fun _ => ?_) (fun _ => ?_) | with_reducible refine px_split (fun _ => ?_) (fun _ => ?_) | with_reducible refine callR hi (fun v2 hv2 => ?_) | simp -implicitDefEqProofs (maxSteps := 2000000) (disch := first | assumption | omega) [*, ])
  exact Ends.eq rfl (by simp) hv2

theorem indexFunc_ins {l : List Ins} {p : Ins → Bool} {g : FuncId} {ca : List LV} {s : List AObj} (hb : l.length ≤ 9223372036854775807) (h : ∀ k, k < l.length → Ret Tryz.prog g (.agg [.int .i64 (nth l k).op, .int .i64 (nth l k).a] :: ca) s (.bool (p (nth l k)))) :
    Ret Tryz.prog 85 [row l, .fn (.func g) [] ca] s (.int .i64 (fidx p l)) := by
  refine .of fun v => ?_
  refine aCalls_go Tryz.func85 rfl (by decide) Tryz.ntmps85 (by simp) false ?_
  have hres : Tryz.f85.results = #[.tmp 4] := rfl
  repeat' (first | with_reducible refine br_t ?_ | with_reducible refine br_f ?_ | with_reducible refine br_dec (fun _ => ?_) (fun _ => ?_) | with_reducible refine g_dec (fun _ => ?_) (fun _ => ?_) | with_reducible refine g_ndec (fun _ => ?_) (fun _ => ?_) | with_reducible refine br_not (fun _ => ?_) (fun _ => ?_) | with_reducible refine br_split (fun _ => ?_) (fun _ => ?_) | with_reducible refine g_not (fun _ => ?_) (fun _ => ?_) | with_reducible refine g_split (fun _ => ?_) (fun _ => ?_) | with_reducible refine px_dec (fun _ => ?_) (fun _ => ?_) | with_reducible refine px_ndec (fun _ => ?_) (fun _ => ?_) | with_reducible refine px_split (fun _ => ?_) (fun _ => ?_) | simp -implicitDefEqProofs (maxSteps := 2000000) (disch := first | assumption | omega) [*, ])
  refine aW_for (β := List Nat) false l.length (fun k v1 => v <+: v1 ∧ ∀ j, j < k → p (nth l j) = false) (fun k _ => [(8, .int .i64 k), (9, .any), (10, .any), (5, .any), (11, .any), (12, .any), (13, .any), (14, .any), (15, .any), (16, .any), (17, .any), (4, .any), (18, .any)]) (fun _ _ => s) (fun _ v1 => v1) ?_ ?_
  · exact ⟨v, ⟨List.prefix_refl _, by simp⟩, by (refine Fits.of ?_ (Off.refl _ _); simp [upd_apply, upds_cons]), rfl, rfl⟩
  rintro k v1 hk ⟨hv, hI⟩
  by_cases hlt : k < l.length
  · have hh := h k hlt
    cases hp : p (nth l k)
    · rw [hp] at hh
      repeat' (first | with_reducible refine br_t ?_ | with_reducible refine br_f ?_ | with_reducible refine br_dec (fun _ => ?_) (fun _ => ?_) | with_reducible refine g_dec (fun _ => ?_) (fun _ => ?_) | with_reducible refine g_ndec (fun _ => ?_) (fun _ => ?_) | with_reducible refine br_not (fun _ => ?_) (fun _ => ?_) | with_reducible refine br_split (fun _ => ?_) (fun _ => ?_) | with_reducible refine g_not (fun _ => ?_) (fun _ => ?_) | with_reducible refine g_split (fun _ => ?_) (fun _ => ?_) | with_reducible refine px_dec (fun _ => ?_) (fun _ => ?_) | with_reducible refine px_ndec (fun _ => ?_) (fun _ => ?_) | with_reducible refine px_split (fun _ => ?_) (fun _ => ?_) | with_reducible refine callR hh (fun v2 hv2 => ?_) | simp -implicitDefEqProofs (maxSteps := 2000000) (disch := first | assumption | omega) [*, ])
      exact ⟨hlt, v2, ⟨hv.trans hv2, fun j hj => by
        by_cases e : j = k
        · subst e; exact hp
        · exact hI j (by omega)⟩, by (refine Fits.of ?_ ?_; rotate_left; (repeat (first | with_reducible exact Off.refl _ _ | refine Off.upd rfl ?_ | refine Off.updO rfl ?_ | refine Off.upds rfl ?_)); simp [upd_apply, upds_cons]), rfl, rfl⟩
    · rw [hp] at hh
      have hf := fidx_at hlt hI hp
      repeat' (first | with_reducible refine br_t ?_ | with_reducible refine br_f ?_ | with_reducible refine br_dec (fun _ => ?_) (fun _ => ?_) | with_reducible refine g_dec (fun _ => ?_) (fun _ => ?_) | with_reducible refine g_ndec (fun _ => ?_) (fun _ => ?_) | with_reducible refine br_not (fun _ => ?_) (fun _ => ?_) | with_reducible refine br_split (fun _ => ?_) (fun _ => ?_) | with_reducible refine g_not (fun _ => ?_) (fun _ => ?_) | with_reducible refine g_split (fun _ => ?_) (fun _ => ?_) | with_reducible refine px_dec (fun _ => ?_) (fun _ => ?_) | with_reducible refine px_ndec (fun _ => ?_) (fun _ => ?_) | with_reducible refine px_split (fun _ => ?_) (fun _ => ?_) | with_reducible refine callR hh (fun v2 hv2 => ?_) | simp -implicitDefEqProofs (maxSteps := 2000000) (disch := first | assumption | omega) [*, ])
      exact Ends.eq rfl (by simp) (hv.trans hv2)
  · have hf := fidx_none (p := p) (l := l) (fun j hj => hI j (by omega))
    have : k = l.length := by omega
    subst this
    repeat' (first | with_reducible refine br_t ?_ | with_reducible refine br_f ?_ | with_reducible refine br_dec (fun _ => ?_) (fun _ => ?_) | with_reducible refine g_dec (fun _ => ?_) (fun _ => ?_) | with_reducible refine g_ndec (fun _ => ?_) (fun _ => ?_) | with_reducible refine br_not (fun _ => ?_) (fun _ => ?_) | with_reducible refine br_split (fun _ => ?_) (fun _ => ?_) | with_reducible refine g_not (fun _ => ?_) (fun _ => ?_) | with_reducible refine g_split (fun _ => ?_) (fun _ => ?_) | with_reducible refine px_dec (fun _ => ?_) (fun _ => ?_) | with_reducible refine px_ndec (fun _ => ?_) (fun _ => ?_) | with_reducible refine px_split (fun _ => ?_) (fun _ => ?_) | simp -implicitDefEqProofs (maxSteps := 2000000) (disch := first | assumption | omega) [*, ])
    exact Ends.eq rfl (by simp) hv
theorem containsFunc_ins {l : List Ins} {p : Ins → Bool} {g : FuncId} {ca : List LV} {s : List AObj} (hb : l.length ≤ 9223372036854775807) (h : ∀ k, k < l.length → Ret Tryz.prog g (.agg [.int .i64 (nth l k).op, .int .i64 (nth l k).a] :: ca) s (.bool (p (nth l k)))) :
    Ret Tryz.prog 67 [row l, .fn (.func g) [] ca] s (.bool (l.any p)) := by
  refine .of fun v => ?_
  refine aCalls_go Tryz.func67 rfl (by decide) Tryz.ntmps67 (by simp) false ?_
  have hres : Tryz.f67.results = #[.tmp 4] := rfl
  have hi := indexFunc_ins hb h
  rw [← fidx_any p l]
  repeat' (first | with_reducible refine br_t ?_ | with_reducible refine br_f ?_ | with_reducible refine br_dec (fun _ => ?_) (fun _ => ?_) | with_reducible refine g_dec (fun _ => ?_) (fun _ => ?_) | with_reducible refine g_ndec (fun _ => ?_) (fun _ => ?_) | with_reducible refine br_not (fun _ => ?_) (fun _ => ?_) | with_reducible refine br_split (fun _ => ?_) (fun _ => ?_) | with_reducible refine g_not (fun _ => ?_) (fun _ => ?_) | with_reducible refine g_split (fun _ => ?_) (fun _ => ?_) | with_reducible refine px_dec (fun _ => ?_) (fun _ => ?_) | with_reducible refine px_ndec (fun _ => ?_) (fun _ => ?_) | with_reducible refine px_split (fun _ => ?_) (fun _ => ?_) | with_reducible refine callR hi (fun v2 hv2 => ?_) | simp -implicitDefEqProofs (maxSteps := 2000000) (disch := first | assumption | omega) [*, ])
  exact Ends.eq rfl (by simp) hv2
end Go.Hb
end

section
namespace Go.Hb
open Go Go.Proofs Go.RowKit
set_option maxRecDepth 100000
set_option maxHeartbeats 800000
attribute [-simp] aC aL aOper aThen aInBlock aIf aPlan aAppend aLen aIndexAddr aSlice aCells aBounds lBr aq initT aev aAppendOwn aAppendNil aAppendNew aAppendRef LV.cells LV.cellsOk getElem?_pos getElem?_neg

theorem is_p (n : Int) : PureE Tryz.prog 86 [.int .i64 n] (.bool (decide (0 ≤ n) && decide (n < 27))) := by
  refine .of fun s v => ?_
  refine aCalls_go Tryz.func86 rfl (by decide) Tryz.ntmps86 (by simp) false ?_
  have hres : Tryz.f86.results = #[.tmp 2] := rfl
  repeat' (first | with_reducible refine br_t ?_ | with_reducible refine br_f ?_ | with_reducible refine br_dec (fun _ => ?_) (fun _ => ?_) | with_reducible refine g_dec (fun _ => ?_) (fun _ => ?_) | with_reducible refine g_ndec (fun _ => ?_) (fun _ => ?_) | with_reducible refine br_not (fun _ => ?_) (fun _ => ?_) | with_reducible refine br_split (fun _ => ?_) (fun _ => ?_) | with_reducible refine g_not (fun _ => ?_) (fun _ => ?_) | with_reducible refine g_split (fun _ => ?_) (fun _ => ?_) | with_reducible refine px_dec (fun _ => ?_) (fun _ => ?_) | with_reducible refine px_ndec (fun _ => ?_) (fun _ => ?_) | with_reducible refine px_split (fun _ => ?_) (fun _ => ?_) | simp -implicitDefEqProofs (maxSteps := 2000000) (disch := first | assumption | omega) [*, ])
  all_goals (first | (exfalso; omega) | ((try subst_vars); (first | refine EndsE.eq ?_ (by simp) | refine EndsE.eqat ?_ (by simp)); (first | with_reducible rfl | (simp [*, ]; done) | (simp [*, ]; omega) | (simp only [LV.bool.injEq]; rw [Bool.eq_iff_iff]; simp [*, ]; done) | (simp only [LV.bool.injEq]; rw [Bool.eq_iff_iff]; simp [*, ]; omega) | (simp only [LV.bool.injEq]; rw [Bool.eq_iff_iff]; simp (disch := omega) only [if_pos, if_neg, if_true, if_false, *, ]; simp <;> omega) | (simp only [LV.bool.injEq, Bool.and_eq_false_imp, Bool.and_eq_true, decide_eq_true_eq]; intros; exfalso; omega) | (simp only [LV.bool.injEq, Bool.and_eq_false_imp, Bool.and_eq_true, decide_eq_true_eq]; intros; simp_all; done))))
theorem within1_r {s : List AObj} {id : Nat} {most n : Int} (hs : s[id]? = some (.cells [.int .i64 most])) : Ret Tryz.prog 80 (.int .i64 n :: [.ptr id 0]) s (.bool (decide (n < 0) || decide (most < n))) := by
  refine .of fun v => ?_
  refine aCalls_go Tryz.func80 rfl (by decide) Tryz.ntmps80 (by simp) false ?_
  have hres : Tryz.f80.results = #[.tmp 3] := rfl
  repeat' (first | with_reducible refine br_t ?_ | with_reducible refine br_f ?_ | with_reducible refine br_dec (fun _ => ?_) (fun _ => ?_) | with_reducible refine g_dec (fun _ => ?_) (fun _ => ?_) | with_reducible refine g_ndec (fun _ => ?_) (fun _ => ?_) | with_reducible refine br_not (fun _ => ?_) (fun _ => ?_) | with_reducible refine br_split (fun _ => ?_) (fun _ => ?_) | with_reducible refine g_not (fun _ => ?_) (fun _ => ?_) | with_reducible refine g_split (fun _ => ?_) (fun _ => ?_) | with_reducible refine px_dec (fun _ => ?_) (fun _ => ?_) | with_reducible refine px_ndec (fun _ => ?_) (fun _ => ?_) | with_reducible refine px_split (fun _ => ?_) (fun _ => ?_) | simp -implicitDefEqProofs (maxSteps := 2000000) (disch := first | assumption | omega) [*, ])
  all_goals exact Ends.eq (by simp [*]) (by simp) (List.prefix_refl _)
theorem allTo_any (l : List Int) (most : Int) : (!(l.any fun n => decide (n < 0) || decide (most < n))) = allTo l most := by
  unfold allTo
  rw [List.not_any_eq_all_not]
  congr 1; funext n
  rw [Bool.eq_iff_iff]; simp
theorem within_p {l : List Int} {most : Int} (hb : l.length ≤ 9223372036854775807) : PureC Tryz.prog 61 [.int .i64 most, row l] (.bool (allTo l most)) := by
  refine .of fun s v => ?_
  have hc := containsFunc_int (l := l) (p := fun n => decide (n < 0) || decide (most < n)) (g := 80) (ca := [.ptr s.length 0]) (s := s ++ [.cells [.int .i64 most]]) hb (fun k _ => within1_r (by simp [get_app0]))
  rw [← allTo_any]
  refine aCalls_go Tryz.func61 rfl (by decide) Tryz.ntmps61 (by simp) false ?_
  have hres : Tryz.f61.results = #[.tmp 4] := rfl
  repeat' (first | with_reducible refine br_t ?_ | with_reducible refine br_f ?_ | with_reducible refine br_dec (fun _ => ?_) (fun _ => ?_) | with_reducible refine g_dec (fun _ => ?_) (fun _ => ?_) | with_reducible refine g_ndec (fun _ => ?_) (fun _ => ?_) | with_reducible refine br_not (fun _ => ?_) (fun _ => ?_) | with_reducible refine br_split (fun _ => ?_) (fun _ => ?_) | with_reducible refine g_not (fun _ => ?_) (fun _ => ?_) | with_reducible refine g_split (fun _ => ?_) (fun _ => ?_) | with_reducible refine px_dec (fun _ => ?_) (fun _ => ?_) | with_reducible refine px_ndec (fun _ => ?_) (fun _ => ?_) | with_reducible refine px_split (fun _ => ?_) (fun _ => ?_) | with_reducible refine callR hc (fun v2 hv2 => ?_) | simp -implicitDefEqProofs (maxSteps := 2000000) (disch := first | assumption | omega) [*, ])
  exact Ends.eqat rfl (by simp) hv2
theorem ops1_p {fs : List Fn_} {mu th lo : Int} {co se ch : List Int} {cho : List (List Int)} {cl : List Ins} : PureE Tryz.prog 93 [.agg [row fs, .int .i64 mu, row co, row se, row ch, row cho, .int .i64 th], .agg [.int .i64 lo, row cl]] (.int .i64 lo) := by
  refine .of fun s v => ?_
  refine aCalls_go Tryz.func93 rfl (by decide) Tryz.ntmps93 (by simp) false ?_
  have hres : Tryz.f93.results = #[.tmp 4] := rfl
  repeat' (first | with_reducible refine br_t ?_ | with_reducible refine br_f ?_ | with_reducible refine br_dec (fun _ => ?_) (fun _ => ?_) | with_reducible refine g_dec (fun _ => ?_) (fun _ => ?_) | with_reducible refine g_ndec (fun _ => ?_) (fun _ => ?_) | with_reducible refine br_not (fun _ => ?_) (fun _ => ?_) | with_reducible refine br_split (fun _ => ?_) (fun _ => ?_) | with_reducible refine g_not (fun _ => ?_) (fun _ => ?_) | with_reducible refine g_split (fun _ => ?_) (fun _ => ?_) | with_reducible refine px_dec (fun _ => ?_) (fun _ => ?_) | with_reducible refine px_ndec (fun _ => ?_) (fun _ => ?_) | with_reducible refine px_split (fun _ => ?_) (fun _ => ?_) | simp -implicitDefEqProofs (maxSteps := 2000000) (disch := first | assumption | omega) [*, ])
  all_goals exact EndsE.eqat rfl (by simp)
theorem ops2_p {fs : List Fn_} {mu th lo : Int} {co se ch : List Int} {cho : List (List Int)} {cl : List Ins} (hb : cl.length < 4611686018427387904) : PureE Tryz.prog 94 [.agg [row fs, .int .i64 mu, row co, row se, row ch, row cho, .int .i64 th], .agg [.int .i64 lo, row cl]] (.int .i64 (cl.length + 1)) := by
  refine .of fun s v => ?_
  refine aCalls_go Tryz.func94 rfl (by decide) Tryz.ntmps94 (by simp) false ?_
  have hres : Tryz.f94.results = #[.tmp 4] := rfl
  repeat' (first | with_reducible refine br_t ?_ | with_reducible refine br_f ?_ | with_reducible refine br_dec (fun _ => ?_) (fun _ => ?_) | with_reducible refine g_dec (fun _ => ?_) (fun _ => ?_) | with_reducible refine g_ndec (fun _ => ?_) (fun _ => ?_) | with_reducible refine br_not (fun _ => ?_) (fun _ => ?_) | with_reducible refine br_split (fun _ => ?_) (fun _ => ?_) | with_reducible refine g_not (fun _ => ?_) (fun _ => ?_) | with_reducible refine g_split (fun _ => ?_) (fun _ => ?_) | with_reducible refine px_dec (fun _ => ?_) (fun _ => ?_) | with_reducible refine px_ndec (fun _ => ?_) (fun _ => ?_) | with_reducible refine px_split (fun _ => ?_) (fun _ => ?_) | simp -implicitDefEqProofs (maxSteps := 2000000) (disch := first | assumption | omega) [*, ])
  all_goals exact EndsE.eqat rfl (by simp)
theorem ops3_p {fs : List Fn_} {mu th lo : Int} {co se ch : List Int} {cho : List (List Int)} {cl : List Ins} : PureE Tryz.prog 95 [.agg [row fs, .int .i64 mu, row co, row se, row ch, row cho, .int .i64 th], .agg [.int .i64 lo, row cl]] (.int .i64 fs.length) := by
  refine .of fun s v => ?_
  refine aCalls_go Tryz.func95 rfl (by decide) Tryz.ntmps95 (by simp) false ?_
  have hres : Tryz.f95.results = #[.tmp 4] := rfl
  repeat' (first | with_reducible refine br_t ?_ | with_reducible refine br_f ?_ | with_reducible refine br_dec (fun _ => ?_) (fun _ => ?_) | with_reducible refine g_dec (fun _ => ?_) (fun _ => ?_) | with_reducible refine g_ndec (fun _ => ?_) (fun _ => ?_) | with_reducible refine br_not (fun _ => ?_) (fun _ => ?_) | with_reducible refine br_split (fun _ => ?_) (fun _ => ?_) | with_reducible refine g_not (fun _ => ?_) (fun _ => ?_) | with_reducible refine g_split (fun _ => ?_) (fun _ => ?_) | with_reducible refine px_dec (fun _ => ?_) (fun _ => ?_) | with_reducible refine px_ndec (fun _ => ?_) (fun _ => ?_) | with_reducible refine px_split (fun _ => ?_) (fun _ => ?_) | simp -implicitDefEqProofs (maxSteps := 2000000) (disch := first | assumption | omega) [*, ])
  all_goals exact EndsE.eqat rfl (by simp)
theorem ops4_p {fs : List Fn_} {mu th lo : Int} {co se ch : List Int} {cho : List (List Int)} {cl : List Ins} : PureE Tryz.prog 96 [.agg [row fs, .int .i64 mu, row co, row se, row ch, row cho, .int .i64 th], .agg [.int .i64 lo, row cl]] (.int .i64 mu) := by
  refine .of fun s v => ?_
  refine aCalls_go Tryz.func96 rfl (by decide) Tryz.ntmps96 (by simp) false ?_
  have hres : Tryz.f96.results = #[.tmp 4] := rfl
  repeat' (first | with_reducible refine br_t ?_ | with_reducible refine br_f ?_ | with_reducible refine br_dec (fun _ => ?_) (fun _ => ?_) | with_reducible refine g_dec (fun _ => ?_) (fun _ => ?_) | with_reducible refine g_ndec (fun _ => ?_) (fun _ => ?_) | with_reducible refine br_not (fun _ => ?_) (fun _ => ?_) | with_reducible refine br_split (fun _ => ?_) (fun _ => ?_) | with_reducible refine g_not (fun _ => ?_) (fun _ => ?_) | with_reducible refine g_split (fun _ => ?_) (fun _ => ?_) | with_reducible refine px_dec (fun _ => ?_) (fun _ => ?_) | with_reducible refine px_ndec (fun _ => ?_) (fun _ => ?_) | with_reducible refine px_split (fun _ => ?_) (fun _ => ?_) | simp -implicitDefEqProofs (maxSteps := 2000000) (disch := first | assumption | omega) [*, ])
  all_goals exact EndsE.eqat rfl (by simp)
theorem ops5_p {fs : List Fn_} {mu th lo : Int} {co se ch : List Int} {cho : List (List Int)} {cl : List Ins} : PureE Tryz.prog 97 [.agg [row fs, .int .i64 mu, row co, row se, row ch, row cho, .int .i64 th], .agg [.int .i64 lo, row cl]] (.int .i64 co.length) := by
  refine .of fun s v => ?_
  refine aCalls_go Tryz.func97 rfl (by decide) Tryz.ntmps97 (by simp) false ?_
  have hres : Tryz.f97.results = #[.tmp 4] := rfl
  repeat' (first | with_reducible refine br_t ?_ | with_reducible refine br_f ?_ | with_reducible refine br_dec (fun _ => ?_) (fun _ => ?_) | with_reducible refine g_dec (fun _ => ?_) (fun _ => ?_) | with_reducible refine g_ndec (fun _ => ?_) (fun _ => ?_) | with_reducible refine br_not (fun _ => ?_) (fun _ => ?_) | with_reducible refine br_split (fun _ => ?_) (fun _ => ?_) | with_reducible refine g_not (fun _ => ?_) (fun _ => ?_) | with_reducible refine g_split (fun _ => ?_) (fun _ => ?_) | with_reducible refine px_dec (fun _ => ?_) (fun _ => ?_) | with_reducible refine px_ndec (fun _ => ?_) (fun _ => ?_) | with_reducible refine px_split (fun _ => ?_) (fun _ => ?_) | simp -implicitDefEqProofs (maxSteps := 2000000) (disch := first | assumption | omega) [*, ])
  all_goals exact EndsE.eqat rfl (by simp)
theorem ops6_p {fs : List Fn_} {mu th lo : Int} {co se ch : List Int} {cho : List (List Int)} {cl : List Ins} : PureE Tryz.prog 98 [.agg [row fs, .int .i64 mu, row co, row se, row ch, row cho, .int .i64 th], .agg [.int .i64 lo, row cl]] (.int .i64 se.length) := by
  refine .of fun s v => ?_
  refine aCalls_go Tryz.func98 rfl (by decide) Tryz.ntmps98 (by simp) false ?_
  have hres : Tryz.f98.results = #[.tmp 4] := rfl
  repeat' (first | with_reducible refine br_t ?_ | with_reducible refine br_f ?_ | with_reducible refine br_dec (fun _ => ?_) (fun _ => ?_) | with_reducible refine g_dec (fun _ => ?_) (fun _ => ?_) | with_reducible refine g_ndec (fun _ => ?_) (fun _ => ?_) | with_reducible refine br_not (fun _ => ?_) (fun _ => ?_) | with_reducible refine br_split (fun _ => ?_) (fun _ => ?_) | with_reducible refine g_not (fun _ => ?_) (fun _ => ?_) | with_reducible refine g_split (fun _ => ?_) (fun _ => ?_) | with_reducible refine px_dec (fun _ => ?_) (fun _ => ?_) | with_reducible refine px_ndec (fun _ => ?_) (fun _ => ?_) | with_reducible refine px_split (fun _ => ?_) (fun _ => ?_) | simp -implicitDefEqProofs (maxSteps := 2000000) (disch := first | assumption | omega) [*, ])
  all_goals exact EndsE.eqat rfl (by simp)
theorem ops7_p {fs : List Fn_} {mu th lo : Int} {co se ch : List Int} {cho : List (List Int)} {cl : List Ins} : PureE Tryz.prog 99 [.agg [row fs, .int .i64 mu, row co, row se, row ch, row cho, .int .i64 th], .agg [.int .i64 lo, row cl]] (.int .i64 ch.length) := by
  refine .of fun s v => ?_
  refine aCalls_go Tryz.func99 rfl (by decide) Tryz.ntmps99 (by simp) false ?_
  have hres : Tryz.f99.results = #[.tmp 4] := rfl
  repeat' (first | with_reducible refine br_t ?_ | with_reducible refine br_f ?_ | with_reducible refine br_dec (fun _ => ?_) (fun _ => ?_) | with_reducible refine g_dec (fun _ => ?_) (fun _ => ?_) | with_reducible refine g_ndec (fun _ => ?_) (fun _ => ?_) | with_reducible refine br_not (fun _ => ?_) (fun _ => ?_) | with_reducible refine br_split (fun _ => ?_) (fun _ => ?_) | with_reducible refine g_not (fun _ => ?_) (fun _ => ?_) | with_reducible refine g_split (fun _ => ?_) (fun _ => ?_) | with_reducible refine px_dec (fun _ => ?_) (fun _ => ?_) | with_reducible refine px_ndec (fun _ => ?_) (fun _ => ?_) | with_reducible refine px_split (fun _ => ?_) (fun _ => ?_) | simp -implicitDefEqProofs (maxSteps := 2000000) (disch := first | assumption | omega) [*, ])
  all_goals exact EndsE.eqat rfl (by simp)
theorem ops8_p {fs : List Fn_} {mu th lo : Int} {co se ch : List Int} {cho : List (List Int)} {cl : List Ins} : PureE Tryz.prog 100 [.agg [row fs, .int .i64 mu, row co, row se, row ch, row cho, .int .i64 th], .agg [.int .i64 lo, row cl]] (.int .i64 cho.length) := by
  refine .of fun s v => ?_
  refine aCalls_go Tryz.func100 rfl (by decide) Tryz.ntmps100 (by simp) false ?_
  have hres : Tryz.f100.results = #[.tmp 4] := rfl
  repeat' (first | with_reducible refine br_t ?_ | with_reducible refine br_f ?_ | with_reducible refine br_dec (fun _ => ?_) (fun _ => ?_) | with_reducible refine g_dec (fun _ => ?_) (fun _ => ?_) | with_reducible refine g_ndec (fun _ => ?_) (fun _ => ?_) | with_reducible refine br_not (fun _ => ?_) (fun _ => ?_) | with_reducible refine br_split (fun _ => ?_) (fun _ => ?_) | with_reducible refine g_not (fun _ => ?_) (fun _ => ?_) | with_reducible refine g_split (fun _ => ?_) (fun _ => ?_) | with_reducible refine px_dec (fun _ => ?_) (fun _ => ?_) | with_reducible refine px_ndec (fun _ => ?_) (fun _ => ?_) | with_reducible refine px_split (fun _ => ?_) (fun _ => ?_) | simp -implicitDefEqProofs (maxSteps := 2000000) (disch := first | assumption | omega) [*, ])
  all_goals exact EndsE.eqat rfl (by simp)
theorem ops9_p {fs : List Fn_} {mu th lo : Int} {co se ch : List Int} {cho : List (List Int)} {cl : List Ins} : PureE Tryz.prog 101 [.agg [row fs, .int .i64 mu, row co, row se, row ch, row cho, .int .i64 th], .agg [.int .i64 lo, row cl]] (.int .i64 1073741825) := by
  refine .of fun s v => ?_
  refine aCalls_go Tryz.func101 rfl (by decide) Tryz.ntmps101 (by simp) false ?_
  have hres : Tryz.f101.results = #[.tmp 4] := rfl
  repeat' (first | with_reducible refine br_t ?_ | with_reducible refine br_f ?_ | with_reducible refine br_dec (fun _ => ?_) (fun _ => ?_) | with_reducible refine g_dec (fun _ => ?_) (fun _ => ?_) | with_reducible refine g_ndec (fun _ => ?_) (fun _ => ?_) | with_reducible refine br_not (fun _ => ?_) (fun _ => ?_) | with_reducible refine br_split (fun _ => ?_) (fun _ => ?_) | with_reducible refine g_not (fun _ => ?_) (fun _ => ?_) | with_reducible refine g_split (fun _ => ?_) (fun _ => ?_) | with_reducible refine px_dec (fun _ => ?_) (fun _ => ?_) | with_reducible refine px_ndec (fun _ => ?_) (fun _ => ?_) | with_reducible refine px_split (fun _ => ?_) (fun _ => ?_) | simp -implicitDefEqProofs (maxSteps := 2000000) (disch := first | assumption | omega) [*, ])
  all_goals exact EndsE.eqat rfl (by simp)
def opsV : List LV := [.str "push".toUTF8, .fn (.func 101) [] [], .str "pop".toUTF8, .nilf, .str "dup".toUTF8, .nilf, .str "add".toUTF8, .nilf, .str "sub".toUTF8, .nilf, .str "get".toUTF8, .fn (.func 93) [] [], .str "set".toUTF8, .fn (.func 93) [] [], .str "jump".toUTF8, .fn (.func 94) [] [], .str "zero".toUTF8, .fn (.func 94) [] [], .str "call".toUTF8, .fn (.func 95) [] [], .str "ret".toUTF8, .nilf, .str "spawn".toUTF8, .fn (.func 95) [] [], .str "yield".toUTF8, .nilf, .str "sleep".toUTF8, .nilf, .str "join".toUTF8, .nilf, .str "lock".toUTF8, .fn (.func 96) [] [], .str "unlock".toUTF8, .fn (.func 96) [] [], .str "wait".toUTF8, .fn (.func 97) [] [], .str "signal".toUTF8, .fn (.func 97) [] [], .str "broadcast".toUTF8, .fn (.func 97) [] [], .str "down".toUTF8, .fn (.func 98) [] [], .str "up".toUTF8, .fn (.func 98) [] [], .str "send".toUTF8, .fn (.func 99) [] [], .str "recv".toUTF8, .fn (.func 99) [] [], .str "select".toUTF8, .fn (.func 100) [] [], .str "print".toUTF8, .nilf, .str "exit".toUTF8, .nilf]
@[simp] theorem opsV_len : opsV.length = 54 := rfl
@[simp] theorem opsV_t0 : List.take 2 (opsV) = [.str "push".toUTF8, .fn (.func 101) [] []] := rfl
@[simp] theorem opsV_t1 : List.take 2 (List.drop 2 opsV) = [.str "pop".toUTF8, .nilf] := rfl
@[simp] theorem opsV_t2 : List.take 2 (List.drop 4 opsV) = [.str "dup".toUTF8, .nilf] := rfl
@[simp] theorem opsV_t3 : List.take 2 (List.drop 6 opsV) = [.str "add".toUTF8, .nilf] := rfl
@[simp] theorem opsV_t4 : List.take 2 (List.drop 8 opsV) = [.str "sub".toUTF8, .nilf] := rfl
@[simp] theorem opsV_t5 : List.take 2 (List.drop 10 opsV) = [.str "get".toUTF8, .fn (.func 93) [] []] := rfl
@[simp] theorem opsV_t6 : List.take 2 (List.drop 12 opsV) = [.str "set".toUTF8, .fn (.func 93) [] []] := rfl
@[simp] theorem opsV_t7 : List.take 2 (List.drop 14 opsV) = [.str "jump".toUTF8, .fn (.func 94) [] []] := rfl
@[simp] theorem opsV_t8 : List.take 2 (List.drop 16 opsV) = [.str "zero".toUTF8, .fn (.func 94) [] []] := rfl
@[simp] theorem opsV_t9 : List.take 2 (List.drop 18 opsV) = [.str "call".toUTF8, .fn (.func 95) [] []] := rfl
@[simp] theorem opsV_t10 : List.take 2 (List.drop 20 opsV) = [.str "ret".toUTF8, .nilf] := rfl
@[simp] theorem opsV_t11 : List.take 2 (List.drop 22 opsV) = [.str "spawn".toUTF8, .fn (.func 95) [] []] := rfl
@[simp] theorem opsV_t12 : List.take 2 (List.drop 24 opsV) = [.str "yield".toUTF8, .nilf] := rfl
@[simp] theorem opsV_t13 : List.take 2 (List.drop 26 opsV) = [.str "sleep".toUTF8, .nilf] := rfl
@[simp] theorem opsV_t14 : List.take 2 (List.drop 28 opsV) = [.str "join".toUTF8, .nilf] := rfl
@[simp] theorem opsV_t15 : List.take 2 (List.drop 30 opsV) = [.str "lock".toUTF8, .fn (.func 96) [] []] := rfl
@[simp] theorem opsV_t16 : List.take 2 (List.drop 32 opsV) = [.str "unlock".toUTF8, .fn (.func 96) [] []] := rfl
@[simp] theorem opsV_t17 : List.take 2 (List.drop 34 opsV) = [.str "wait".toUTF8, .fn (.func 97) [] []] := rfl
@[simp] theorem opsV_t18 : List.take 2 (List.drop 36 opsV) = [.str "signal".toUTF8, .fn (.func 97) [] []] := rfl
@[simp] theorem opsV_t19 : List.take 2 (List.drop 38 opsV) = [.str "broadcast".toUTF8, .fn (.func 97) [] []] := rfl
@[simp] theorem opsV_t20 : List.take 2 (List.drop 40 opsV) = [.str "down".toUTF8, .fn (.func 98) [] []] := rfl
@[simp] theorem opsV_t21 : List.take 2 (List.drop 42 opsV) = [.str "up".toUTF8, .fn (.func 98) [] []] := rfl
@[simp] theorem opsV_t22 : List.take 2 (List.drop 44 opsV) = [.str "send".toUTF8, .fn (.func 99) [] []] := rfl
@[simp] theorem opsV_t23 : List.take 2 (List.drop 46 opsV) = [.str "recv".toUTF8, .fn (.func 99) [] []] := rfl
@[simp] theorem opsV_t24 : List.take 2 (List.drop 48 opsV) = [.str "select".toUTF8, .fn (.func 100) [] []] := rfl
@[simp] theorem opsV_t25 : List.take 2 (List.drop 50 opsV) = [.str "print".toUTF8, .nilf] := rfl
@[simp] theorem opsV_t26 : List.take 2 (List.drop 52 opsV) = [.str "exit".toUTF8, .nilf] := rfl
set_option maxHeartbeats 4000000 in
theorem ops_p : PureE Tryz.prog 87 [] (.agg opsV) := by
  refine .of fun s v => ?_
  refine aCalls_go Tryz.func87 rfl (by decide) Tryz.ntmps87 (by simp) false ?_
  have hres : Tryz.f87.results = #[.cell 0 120] := rfl
  repeat' (first | with_reducible refine br_t ?_ | with_reducible refine br_f ?_ | with_reducible refine br_dec (fun _ => ?_) (fun _ => ?_) | with_reducible refine g_dec (fun _ => ?_) (fun _ => ?_) | with_reducible refine g_ndec (fun _ => ?_) (fun _ => ?_) | with_reducible refine br_not (fun _ => ?_) (fun _ => ?_) | with_reducible refine br_split (fun _ => ?_) (fun _ => ?_) | with_reducible refine g_not (fun _ => ?_) (fun _ => ?_) | with_reducible refine g_split (fun _ => ?_) (fun _ => ?_) | with_reducible refine px_dec (fun _ => ?_) (fun _ => ?_) | with_reducible refine px_ndec (fun _ => ?_) (fun _ => ?_) | with_reducible refine px_split (fun _ => ?_) (fun _ => ?_) | simp -implicitDefEqProofs (maxSteps := 2000000) (disch := first | assumption | omega) [*, ])
  exact EndsE.eqat rfl (by simp)
end Go.Hb
end

