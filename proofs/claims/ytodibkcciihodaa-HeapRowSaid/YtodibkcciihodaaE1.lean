/-
  A layer for reasoning about the program's calls, and contracts of its functions (E1). CONDITIONS: none; each theorem bears its own.
-/
import Derived.Test.YtodibkcciihodaaD9
import Derived.Test.YtodibkcciihodaaL6
import Derived.Shelf.SlSortCmp.InsertionK
set_option linter.unusedVariables false
set_option linter.unusedSimpArgs false
section
namespace Go.Hb
open Go Go.Proofs Go.RowKit
attribute [-simp] aC aL aOper aThen aInBlock aIf aPlan aAppend

def KeepS (s s' : List AObj) : Prop := s.length ≤ s'.length ∧ ∀ i, i < s.length → s'[i]? = s[i]?
theorem KeepS.refl (s : List AObj) : KeepS s s := ⟨Nat.le_refl _, fun _ _ => rfl⟩
/-- A slice of timers. -/
def Row (sl : LV) (ts : List Tm) (s : List AObj) : Prop := (ts = [] ∧ sl = .nils) ∨ ∃ lid r, sl = .ref 2 lid 0 ts.length false ∧ s[lid]? = some (.cells (flat ts ++ flat r))
theorem Row.keep {sl : LV} {ts : List Tm} {s s' : List AObj} (h : Row sl ts s) (k : KeepS s s') : Row sl ts s' := by
  rcases h with h | ⟨lid, r, h1, h2⟩
  · exact .inl h
  · exact .inr ⟨lid, r, h1, by rw [k.2 _ (List.getElem?_eq_some_iff.1 h2).1]; exact h2⟩

set_option maxRecDepth 10000 in
set_option maxHeartbeats 4000000 in
/-- slices.Values' inner function: each timer is handed to the round. -/
theorem values1_c {l i0 : Nat} {sl : LV} {ts : List Tm} {J : Nat → List AObj → List Nat → Prop} {s : List AObj} {v : List Nat} (hn : ts.length ≤ 1000000) (h0 : J 0 s v)
    (hJ : ∀ k s v, J k s v → s[i0]? = some (.cells [sl]) ∧ Row sl ts s)
    (hY : ∀ k s v, J k s v → ∀ (hk : k < ts.length), aRound Try.prog l [.agg (tc ts[k])] (s ++ [.cells (tc ts[k])]) v fun x s' v' => x = .bool true ∧ J (k + 1) s' v') :
    aCalls Try.prog 37 [.yld l, .ptr i0 0] s v fun _ s' v' => J ts.length s' v' := by
  refine aCalls_of Try.func37 rfl (by decide) (by simp [Try.ntmps37]) false ?_
  have hres : Try.f37.results = #[] := rfl
  obtain ⟨a1, a2⟩ := hJ 0 s v h0
  rcases a2 with ⟨rfl, rfl⟩ | ⟨lid, r0, rfl, a2⟩
  · simp [Try.ntmps37, a1]
    refine aW_forC false 0 (fun k st => st.t 7 = .int .i64 0 ∧ st.t 6 = .int .i64 0 ∧ J 0 st.s st.v) ?_ ?_
    · exact ⟨0, Nat.zero_le _, by simp [upd_apply], by simp [upd_apply], h0⟩
    rintro k t1 s1 v1 hk ⟨h7, h6, hJk⟩
    simp only at h7 h6 hJk
    simp [h7, h6, hres]
    exact hJk
  simp [Try.ntmps37, a1]
  refine aW_forC false ts.length (fun k st => st.t 7 = .int .i64 k ∧ st.t 6 = .int .i64 ts.length ∧ st.t 5 = .ref 2 lid 0 ts.length false ∧ st.t 0 = .yld l ∧ J k st.s st.v) ?_ ?_
  · exact ⟨0, Nat.zero_le _, by simp [upd_apply], by simp [upd_apply], by simp [upd_apply], by simp [upd_apply], h0⟩
  rintro k t1 s1 v1 hk ⟨h7, h6, h5, hy, hJk⟩
  simp only at h7 h6 h5 hy hJk
  by_cases hlt : k < ts.length
  · have hlt' : (k : Int) < (ts.length : Int) := by omega
    have hw := wrap_succ hlt hn
    obtain ⟨b1, b2⟩ := hJ k s1 v1 hJk
    rcases b2 with ⟨_, e⟩ | ⟨lid', r, e, b2⟩
    · cases e
    cases e
    have d1 := flat_drop ts k hlt (flat r)
    have hfl := flat_len ts
    have t1 : ∀ (t : Tm) X, List.take 2 (tc t ++ X) = tc t := fun t X => rfl
    have bb : k * 2 + 2 ≤ ts.length * 2 + (flat r).length := by omega
    have hY' := hY k s1 v1 hJk hlt
    simp [h7, h6, h5, hy, hlt, b2, d1, hfl, t1, bb, get_app, get_app0, tc]
    refine aRound_mono hY' ?_
    rintro _ s' v' ⟨rfl, hJ1⟩
    simp [h7, hw]
    exact hid ⟨hlt, by simp [upd_apply], by simp [upd_apply, h6], by simp [upd_apply, h5], by simp [upd_apply, hy], hJ1⟩
  · have : k = ts.length := by omega
    subst this
    simp [h7, h6, hres]
    exact hJk
/-- What the new row holds, and where. -/
def Own (s : List AObj) (ts : List Tm) (y : LV) (s' : List AObj) : Prop := (ts = [] ∧ y = .nils) ∨ ∃ id, y = .ref 2 id 0 ts.length false ∧ s.length ≤ id ∧ ts ≠ [] ∧ s'[id]? = some (.cells (flat ts))
set_option maxRecDepth 10000 in
set_option maxHeartbeats 8000000 in
theorem appendSeq_c {i0 : Nat} {sl : LV} {ts : List Tm} {s : List AObj} {v : List Nat} (hn : ts.length ≤ 100000) (h1 : s[i0]? = some (.cells [sl])) (h2 : Row sl ts s) :
    aCalls Try.prog 41 [.nils, .fn (.func 37) [] [.ptr i0 0]] s v fun y s' v' => Own s ts y s' ∧ KeepS s s' ∧ v = v' := by
  have hi0 := (List.getElem?_eq_some_iff.1 h1).1
  refine aCalls_of Try.func41 rfl (by decide) (by simp [Try.ntmps41]) true ?_
  have hres : Try.f41.results = #[.tmp 4] := rfl
  simp [Try.ntmps41]
  refine aW_range (g := 37) (fa := []) (ca := [.ptr i0 0]) (by simp [upd_apply]) rfl ?_
  simp
  generalize hlo : ALoop.mk LoopState.ready none _ _ _ _ _ = lo
  have ha := congrArg ALoop.assign hlo.symm
  have hbo := congrArg ALoop.body hlo.symm
  have ht := congrArg ALoop.tmps hlo.symm
  have hpa := congrArg ALoop.params hlo.symm
  have hsz := congrArg ALoop.size hlo.symm
  have hst := congrArg ALoop.state hlo.symm
  have hpe := congrArg ALoop.pending hlo.symm
  simp only at ha hbo ht hpa hsz hst hpe
  let J : Nat → List AObj → List Nat → Prop := fun k s' v' => KeepS s s' ∧ s.length + 2 ≤ s'.length ∧ s'[s.length + 1]? = some (.loop lo) ∧ v = v' ∧ ∃ x, s'[s.length]? = some (.cells [x]) ∧ ((k = 0 ∧ x = .nils) ∨ ∃ id, x = .ref 2 id 0 k false ∧ s.length + 2 ≤ id ∧ 0 < k ∧ s'[id]? = some (.cells (flat (ts.take k))))
  have hJ0 : J 0 (s ++ [.cells [.nils], .loop lo]) v := ⟨⟨by simp, fun i hi => List.getElem?_append_left hi⟩, by simp, by simp [get_app], rfl, .nils, by simp [get_app0], .inl ⟨rfl, rfl⟩⟩
  refine aCalls_mono (values1_c (J := J) (ts := ts) (sl := sl) (by omega) hJ0 ?_ ?_) ?_
  · rintro k s1 v1 ⟨hK, hl, _, _, _⟩
    exact ⟨by rw [hK.2 _ hi0]; exact h1, h2.keep hK⟩
  · rintro k s1 v1 ⟨hK, hl, gl, rfl, x, gx, hx⟩ hk
    have hS0 : s.length < s1.length := by omega
    have hS1 : s.length + 1 < s1.length := by omega
    obtain ⟨S, hS⟩ : ∃ S, S = s1 ++ [.cells (tc ts[k])] := ⟨_, rfl⟩
    have e0 : ∀ i, i < s1.length → S[i]? = s1[i]? := fun i hi => by rw [hS, List.getElem?_append_left hi]
    have eS : S.length = s1.length + 1 := by rw [hS]; simp
    rw [← hS]
    refine aRound_of (lp := lo) (by rw [e0 _ hS1]; exact gl) (by subst hlo; rfl) (by subst hlo; simp) ?_
    rw [ha, hbo, hsz, hpa, ht]
    refine aC_sound (own := true) _ _ _ ?_
    have q0 : ∀ J, (S ++ J)[s.length]? = S[s.length]? := fun J => List.getElem?_append_left (by omega)
    have q1 : ∀ J, (S ++ J)[s.length + 1]? = S[s.length + 1]? := fun J => List.getElem?_append_left (by omega)
    have q2 : ∀ J o, (S ++ J).set (s.length + 1) o = S.set (s.length + 1) o ++ J := fun J o => set_old (by omega) o
    simp [setParams, get_app, get_app0, set_app0, tc, q1, e0 _ hS1, gl, hst, hpe, q2]
    refine aC_sound (own := true) _ _ _ ?_
    simp
    generalize hS2 : S.set (s.length + 1) _ = S2
    have eS2 : S2.length = s1.length + 1 := by rw [← hS2, List.length_set, eS]
    have z0 : S2[s.length]? = some (.cells [x]) := by rw [← hS2, List.getElem?_set_ne (by omega), e0 _ hS0]; exact gx
    have zk : ∀ i, i < s.length → S2[i]? = s[i]? := fun i hi => by rw [← hS2, List.getElem?_set_ne (by omega), e0 _ (by omega)]; exact hK.2 i hi
    have z1 := congrArg (·[s.length + 1]?) hS2
    rw [List.getElem?_set_self (by omega)] at z1
    have u0 : ∀ J, (S2 ++ J)[s.length]? = some (.cells [x]) := fun J => by rw [List.getElem?_append_left (by omega)]; exact z0
    have uS : ∀ J, (S2 ++ J)[S.length]? = J[0]? := fun J => get_at0 (by omega)
    have w0 : ∀ o J, (S2 ++ J).set s.length o = S2.set s.length o ++ J := fun o J => set_old (by omega) o
    have ek : ts.take (k + 1) = ts.take k ++ [ts[k]] := by rw [List.take_add_one, List.getElem?_eq_getElem hk]; rfl
    have ef : flat (ts.take (k + 1)) = flat (ts.take k) ++ tc ts[k] := by rw [ek, flat_app]; simp [flat]
    have m1 : k + 1 ≤ maxLen := by unfold maxLen; omega
    have m2 : (k + 1) * 16 ≤ 140737488355328 := by omega
    have elo : ALoop.mk LoopState.ready none lo.tmps lo.size lo.params lo.assign lo.body = lo := by
      cases lo; simp only at hst hpe; subst hst; subst hpe; rfl
    have fin : ∀ (T : List AObj) (b : AObj) (cs : List LV), T.length = S2.length → T[s.length]? = some (.cells [.ref 2 (S2.length + 1) 0 (k + 1) false]) → T[s.length + 1]? = S2[s.length + 1]? → (∀ i, i < s.length → T[i]? = s[i]?) → cs = flat (ts.take (k + 1)) →
        ∃ lp : ALoop, (T ++ [b, .cells cs])[s.length + 1]? = some (.loop lp) ∧ J (k + 1) ((T ++ [b, .cells cs]).set (s.length + 1) (.loop ⟨.ready, none, lp.tmps, lp.size, lp.params, lp.assign, lp.body⟩)) v := by
      intro T b cs t1 t2 t3 t4 t5
      refine ⟨_, by rw [List.getElem?_append_left (by omega), t3, ← z1], ?_⟩
      dsimp only
      rw [elo]
      have hlen : ((T ++ [b, .cells cs]).set (s.length + 1) (.loop lo)).length = S2.length + 2 := by simp; omega
      refine ⟨⟨by omega, fun i hi => by rw [List.getElem?_set_ne (by omega), List.getElem?_append_left (by omega)]; exact t4 i hi⟩, by omega, List.getElem?_set_self (by simp; omega), rfl, _, by rw [List.getElem?_set_ne (by omega), List.getElem?_append_left (by omega)]; exact t2, .inr ⟨S2.length + 1, rfl, by omega, by omega, ?_⟩⟩
      rw [List.getElem?_set_ne (by omega), List.getElem?_append_right (by omega), t1, show S2.length + 1 - S2.length = 1 by omega, t5]; rfl
    rcases hx with ⟨rfl, rfl⟩ | ⟨id, rfl, hid, hk0, gid⟩
    · have m1' : (1 : Nat) ≤ maxLen := by unfold maxLen; omega
      simp [u0, uS, m1', w0, get_app0, roundQ]
      exact fin _ _ _ (by simp) (List.getElem?_set_self (by omega)) (List.getElem?_set_ne (by omega)) (fun i hi => by rw [List.getElem?_set_ne (by omega)]; exact zk i hi) (by rw [ef]; simp [flat, tc])
    · have hidl := (List.getElem?_eq_some_iff.1 gid).1
      have zi : S2[id]? = some (.cells (flat (ts.take k))) := by rw [← hS2, List.getElem?_set_ne (by omega), e0 _ hidl]; exact gid
      have ui : ∀ J, (S2 ++ J)[id]? = some (.cells (flat (ts.take k))) := fun J => by rw [List.getElem?_append_left (by omega)]; exact zi
      have hfl : (flat (ts.take k)).length = k * 2 := by rw [flat_len, List.length_take]; omega
      have hne : flat (ts.take k) ≠ [] := fun e => by rw [e] at hfl; simp at hfl; omega
      have tk : List.take (k * 2) (flat (ts.take k)) = flat (ts.take k) := List.take_of_length_le (by omega)
      have v0 : ∀ o J, (S2.set id o ++ J)[s.length]? = some (.cells [.ref 2 id 0 k false]) := fun o J => by rw [List.getElem?_append_left (by rw [List.length_set]; omega), List.getElem?_set_ne (by omega)]; exact z0
      have v1 : ∀ o J, (S2 ++ J).set id o = S2.set id o ++ J := fun o J => set_old (by omega) o
      have v2 : ∀ o o' J, (S2.set id o ++ J).set s.length o' = (S2.set id o).set s.length o' ++ J := fun o o' J => set_old (by rw [List.length_set]; omega) o'
      simp [u0, ui, uS, m1, m2, hfl, hne, tk, v0, v1, v2, get_app0, roundQ]
      exact fin _ _ _ (by simp) (List.getElem?_set_self (by rw [List.length_set]; omega)) (by rw [List.getElem?_set_ne (by omega), List.getElem?_set_ne (by omega)]) (fun i hi => by rw [List.getElem?_set_ne (by omega), List.getElem?_set_ne (by omega)]; exact zk i hi) (by rw [ef]; simp [tc])
  · rintro y s1 v1 ⟨hK, hl, gl, rfl, x, gx, hx⟩
    refine ⟨lo, gl, by rw [hst]; simp, ?_⟩
    rw [hpe]
    dsimp only
    generalize hS2 : s1.set (s.length + 1) _ = S2
    have z0 : S2[s.length]? = some (.cells [x]) := by rw [← hS2, List.getElem?_set_ne (by omega)]; exact gx
    have hKeep : KeepS s S2 := ⟨by rw [← hS2, List.length_set]; omega, fun i hi => by rw [← hS2, List.getElem?_set_ne (by omega)]; exact hK.2 i hi⟩
    have hOwn : Own s ts x S2 := by
      rcases hx with ⟨h0, rfl⟩ | ⟨id, rfl, h2, h3, h4⟩
      · exact .inl ⟨List.length_eq_zero_iff.1 h0, rfl⟩
      · rw [List.take_length] at h4
        exact .inr ⟨id, rfl, by omega, fun e => by subst e; simp at h3, by rw [← hS2, List.getElem?_set_ne (by omega)]; exact h4⟩
    simp only [aInBlock, aSeq, aThen]
    simp [z0, hres]
    exact ⟨hOwn, hKeep⟩
section
variable {s : List AObj} {v : List Nat} {sl : LV} {ts : List Tm}
theorem values_c (h : Row sl ts s) : aCalls Try.prog 31 [sl] s v fun y s' v' => y = .fn (.func 37) [] [.ptr s.length 0] ∧ s ++ [.cells [sl]] = s' ∧ v = v' := by
  refine aCalls_of Try.func31 rfl (by decide) (by simp [Try.ntmps31]) false ?_
  have hres : Try.f31.results = #[.tmp 2] := rfl
  rcases h with ⟨rfl, rfl⟩ | ⟨lid, r, rfl, _⟩
  · simp [Try.ntmps31, hres]
  · simp [Try.ntmps31, hres]
theorem collect_c {i0 : Nat} (hn : ts.length ≤ 100000) (h1 : s[i0]? = some (.cells [sl])) (h2 : Row sl ts s) :
    aCalls Try.prog 35 [.fn (.func 37) [] [.ptr i0 0]] s v fun y s' v' => Own s ts y s' ∧ KeepS s s' ∧ v = v' := by
  refine aCalls_of Try.func35 rfl (by decide) (by simp [Try.ntmps35]) false ?_
  have hres : Try.f35.results = #[.tmp 2] := rfl
  simp [Try.ntmps35]
  refine aCalls_mono (appendSeq_c (v := v) hn h1 h2) ?_
  rintro y s' _ ⟨k1, k2, rfl⟩
  simp [hres]
  exact ⟨k1, k2⟩
end
end Go.Hb
end

section
namespace Go.Hb
open Go Go.Proofs Go.RowKit Go.Sort
attribute [-simp] aC aL aOper aThen aInBlock aIf aPlan aAppend

/-! ### timers as the kit's sort sees them -/
def encT (t : Tm) : List Value := [.int .i64 t.1, .int .i64 t.2]
theorem rel_flat {C : Ctx} : ∀ (ts : List Tm) (us : List Value), RelVs C (flat ts) us ↔ us = ts.flatMap encT
  | [], us => by simp [flat, RelVs]
  | t :: ts, us => by
    have e : flat (t :: ts) = .int .i64 t.1 :: .int .i64 t.2 :: flat ts := by simp [flat, tc]
    rw [e]
    simp only [RelVs, RelV]
    constructor
    · rintro ⟨v, vs, rfl, rfl, w, ws, rfl, rfl, h⟩
      rw [(rel_flat ts ws).1 h]; simp [encT]
    · rintro rfl
      exact ⟨.int .i64 t.1, .int .i64 t.2 :: ts.flatMap encT, by simp [encT], rfl, .int .i64 t.2, ts.flatMap encT, rfl, rfl, (rel_flat ts _).2 rfl⟩
theorem fm_len : ∀ ts : List Tm, (ts.flatMap encT).length = ts.length * 2
  | [] => rfl
  | t :: ts => by rw [List.flatMap_cons, List.length_append, fm_len ts]; simp [encT]; omega
theorem fm_get : ∀ (ts : List Tm) (i : Nat), i < ts.length * 2 → (ts.flatMap encT)[i]? = some ((encT (ts[i / 2]!))[i % 2]!)
  | [], i, h => by simp at h
  | t :: ts, 0, _ => by simp [encT]
  | t :: ts, 1, _ => by simp [encT]
  | t :: ts, i + 2, h => by
    have ih := fm_get ts i (by simp at h; omega)
    have e : (t :: ts).flatMap encT = .int .i64 t.1 :: .int .i64 t.2 :: ts.flatMap encT := by simp [encT]
    rw [e, List.getElem?_cons_succ, List.getElem?_cons_succ, ih, show (i + 2) / 2 = i / 2 + 1 by omega, show (i + 2) % 2 = i % 2 by omega]
    simp
theorem flatK_list (d : Array Tm) : (flatK encT 2 d).toList = d.toList.flatMap encT := by
  apply List.ext_getElem?
  intro i
  by_cases h : i < d.size * 2
  · rw [fm_get _ _ (by simpa using h)]
    rw [Array.getElem?_toList, Array.getElem?_eq_getElem (by simpa using h)]
    have hb : i / 2 < d.size := by omega
    simp [flatK, getElem!_pos d (i / 2) hb, hb]
  · rw [List.getElem?_eq_none (by simp; omega), List.getElem?_eq_none (by rw [fm_len]; simp; omega)]
theorem enc_one (t : Tm) : ∀ v ∈ encT t, v.oneCell' = true := by
  intro v hv
  simp [encT] at hv
  rcases hv with rfl | rfl <;> rfl

/-- compare, in whatever world. -/
theorem compare_w (x y : Tm) (W : World) : Calls Try.prog 32 #[.agg (encT x).toArray, .agg (encT y).toArray] W fun e w' => e = .returned (.int .i64 (cmp2 x y)) ∧ ∃ q os', w' = Go.Sort.grow (W.drewN q) os' := by
  have ha : ∀ t : Tm, RelV (start W) (.agg (tc t)) (.agg (encT t).toArray) := fun t => by
    simp only [RelV]
    refine ⟨_, rfl, ?_, fun u hu => enc_one t u (by simpa using hu)⟩
    have := (rel_flat (C := start W) [t] (encT t)).2 (by simp)
    simpa [flat] using this
  refine (calls_grow (R := fun z => z = .int .i64 (cmp2 x y)) (aCalls_mono (compare_p (a := x) (b := y) [] []) fun z _ _ h => h.1.symm) (RelVs.app (xs := [_]) (vs := [_]) (RelVs.one (ha x)) (RelVs.one (ha y)))).mono ?_
  rintro e w' ⟨⟨C, z, u, rfl, h1, rfl⟩, h2⟩
  simp only [RelV] at h1
  subst h1
  exact ⟨rfl, h2⟩

theorem cmpLays (blk off size : Nat) (w : World) : CmpLays Try.prog 32 #[] encT 2 cmp2 blk off size w := fun _ _ _ _ x y => compare_w x y _

theorem ltOf_lt2 (x y : Tm) : ltOf cmp2 x y = lt2 x y := by
  unfold ltOf
  rw [Bool.eq_iff_iff, decide_eq_true_eq]; exact cmp2_lt x y
theorem swo : SWO (ltOf cmp2) where
  irrefl x := by rw [ltOf_lt2, Bool.eq_false_iff]; exact lt2_irr x
  trans x y z h k := by rw [ltOf_lt2] at *; exact lt2_trans h k
  ntrans x y z h k := by
    rw [ltOf_lt2, Bool.eq_false_iff] at *
    exact le2_trans (a := z) (b := y) (c := x) k h

/-- What the kit's contract of slices.SortFunc says here. -/
def SortOk : Prop := ∀ (blk cap : Nat) (d : Array Tm) (w : World), HoldsK encT 2 w blk 0 d → blk < w.heap.size → d.size < 4611686018427387904 →
  Calls Try.prog 36 #[.slice (some ⟨blk, 0, none⟩) d.size cap, .func (.func 32) #[] #[]] w fun e w' => e = .returned (.tuple #[]) ∧ ∃ d' n os, PermIn 0 d.size d d' ∧ SortedIn (ltOf cmp2) 0 d.size d' ∧ w' = sortWorldK encT 2 w blk 0 n d' os

section
variable {s : List AObj} {v : List Nat} {ts : List Tm}
theorem sortFunc_c (K : SortOk) {id : Nat} (hs : s[id]? = some (.cells (flat ts))) (hne : ts ≠ []) (hn : ts.length ≤ 100000) :
    aCalls Try.prog 36 [.ref 2 id 0 ts.length false, .fn (.func 32) [] []] s v fun y s' v' => ∃ ts' : List Tm, ts'.Perm ts ∧ ts'.Pairwise le2 ∧ y = .tup [] ∧ s.set id (.cells (flat ts')) = s' ∧ v = v' := by
  refine ⟨by kernel_rfl, fun C vs hok hτ hargs => ?_⟩
  obtain ⟨v0, r0, e0, h0, v1, r1, e1, h1, e2⟩ := hargs
  subst e2; subst e1
  simp only [RelV] at h0 h1
  obtain ⟨hid, cap, rfl, hc1, hc2, _, hc3⟩ := h0
  obtain ⟨fs, cs, rfl, f1, f2⟩ := h1
  simp only [RelVs] at f1 f2
  have hfs : fs = #[] := by cases fs; simp_all
  have hcs : cs = #[] := by cases cs; simp_all
  subst hfs; subst hcs
  have hvs : vs = #[.slice (some ⟨C.ρ id, 0, none⟩) ts.toArray.size cap, .func (.func 32) #[] #[]] := by
    cases vs; simp at e0; simp [e0]
  subst hvs
  obtain ⟨old, T, us, ws, k1, k2, k3, k4⟩ := hok.obj id _ hs
  rw [rel_flat] at k3
  subst k3
  have hblk : C.ρ id < C.w.heap.size := (Array.getElem?_eq_some_iff.1 k1).1
  have hflat := flatK_list ts.toArray
  have hH : HoldsK encT 2 C.w (C.ρ id) 0 ts.toArray := by
    intro j hj
    have hj' : j < (flatK encT 2 ts.toArray).size := hj
    have hjl : j < (ts.flatMap encT).length := by rw [← show (flatK encT 2 ts.toArray).toList = ts.flatMap encT from hflat]; simpa using hj'
    have hold : old[j]? = some ((flatK encT 2 ts.toArray)[j]!) := by
      rw [← Array.getElem?_toList, k2, List.getElem?_append_left hjl, ← show (flatK encT 2 ts.toArray).toList = ts.flatMap encT from hflat, Array.getElem?_toList, getElem!_pos _ j hj', Array.getElem?_eq_getElem hj']
    constructor
    · simp only [World.cell?, Nat.zero_add, k1]
      simpa using hold
    · simp [World.frozen?, k1]
  refine (K (C.ρ id) cap ts.toArray C.w hH hblk (by simp; omega)).mono ?_
  rintro e w' ⟨rfl, d', n, os, ⟨p1, _, p3⟩, hsorted, rfl⟩
  have hperm : d'.toList.Perm ts := by
    have e1 : d'.extract 0 ts.toArray.size = d' := by rw [← p1]; simp
    have e2 : ts.toArray.extract 0 ts.toArray.size = ts.toArray := by simp
    rw [e1, e2] at p3
    exact p3
  have hF : RelVs C (flat d'.toList) (flatK encT 2 d').toList := by rw [rel_flat]; exact flatK_list d'
  have h1F : ∀ u ∈ (flatK encT 2 d').toList, u.oneCell' = true := by
    rw [flatK_list]
    intro u hu
    obtain ⟨t, _, ht⟩ := List.mem_flatMap.1 hu
    exact enc_one t u ht
  have hne' : flat ts ≠ [] := fun e => by
    have := flat_len ts
    rw [e] at this
    exact hne (List.length_eq_zero_iff.1 (by simp at this; omega))
  obtain ⟨C', c1, c2, c3, c4⟩ := sort_bridge hok hs hne' (flatK encT 2 d') hF h1F (by rw [flat_len, flat_len, hperm.length_eq]; omega) n os
  refine ⟨C', .tup [], .tuple #[], _, v, c1, rfl, c2, c3, c4.trans hτ, by simp only [RelV]; exact ⟨#[], rfl, rfl⟩, d'.toList, hperm, ?_, rfl, rfl, rfl⟩
  rw [List.pairwise_iff_getElem]
  intro i j hi hj hij
  have := hsorted i j (Nat.zero_le _) hij (by rw [← p1]; simpa using hj)
  rw [ltOf_lt2, getElem!_pos d' j (by simpa using hj), getElem!_pos d' i (by simpa using hi), Bool.eq_false_iff] at this
  exact this
end
end Go.Hb
end

