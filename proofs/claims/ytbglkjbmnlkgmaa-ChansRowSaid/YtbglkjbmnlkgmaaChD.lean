import Derived.Test.YtbglkjbmnlkgmaaChC
namespace Go.Hb
open Go Go.Proofs Go.RowKit

theorem get_at {s l : List AObj} {m : Nat} (h : s.length = m) (k : Nat) : (s ++ l)[m + k]? = l[k]? := by subst h; exact get_app s l k
theorem get_at0 {s l : List AObj} {m : Nat} (h : s.length = m) : (s ++ l)[m]? = l[0]? := get_at h 0
theorem set_at {s l : List AObj} {m : Nat} (h : s.length = m) (k : Nat) (o : AObj) : (s ++ l).set (m + k) o = s ++ l.set k o := by subst h; exact set_app s l k o
theorem set_at0 {s l : List AObj} {m : Nat} (h : s.length = m) (o : AObj) : (s ++ l).set m o = s ++ l.set 0 o := set_at h 0 o

theorem waits_c {id : Nat} {t : Int} {s : List AObj} {v : List Nat} :
    aCalls Try.prog 35 [.ptr id 0, .int .i64 t] s v fun r s' v' => r = .fn (.func 45) [] [.ptr s.length 0, .ptr (s.length + 1) 0] ∧ s ++ [.cells [.ptr id 0], .cells [.int .i64 t]] = s' ∧ v = v' := by
  refine aCalls_of Try.func35 rfl (by decide) (by simp [Try.ntmps35]) false ?_
  simp [Try.f35]

def del (t : Int) (l : List Int) : List Int := l.filter fun x => !decide (x = t)
theorem del_id {t : Int} {l : List Int} (h : t ∉ l) : del t l = l := by
  unfold del; rw [List.filter_eq_self]; intro x hx; simp; rintro rfl; exact h hx

/-- The rows of which the first k were passed. -/
def gone (t : Int) (k : Nat) (R : List (List Int)) : List (List Int) := (R.take k).map (del t) ++ R.drop k
theorem gone_length (t : Int) (k : Nat) (R : List (List Int)) : (gone t k R).length = R.length := by unfold gone; simp; omega
theorem gone_at {t : Int} {k : Nat} {R : List (List Int)} (hk : k < R.length) : (gone t k R)[k]? = some R[k] := by
  unfold gone; rw [List.getElem?_append_right (by simp; omega)]; simp; simp [Nat.min_eq_left (Nat.le_of_lt hk), hk]
theorem gone_succ {t : Int} {k : Nat} {R : List (List Int)} (hk : k < R.length) : gone t (k + 1) R = (gone t k R).set k (del t R[k]) := by
  unfold gone
  rw [List.set_append_right _ _ (by simp; omega)]
  rw [List.take_succ_eq_append_getElem hk, List.map_append, List.append_assoc]
  congr 1
  simp only [List.length_map, List.length_take, Nat.min_eq_left (Nat.le_of_lt hk), Nat.sub_self]
  rw [← List.getElem_cons_drop (h := hk)]
  rfl
theorem gone_all {t : Int} {R : List (List Int)} {n : Nat} (h : R.length ≤ n) : gone t n R = R.map (del t) := by
  unfold gone; simp [List.take_of_length_le h, List.drop_of_length_le h]

theorem any_take_succ {f : List Int → Bool} {R : List (List Int)} {k : Nat} (hk : k < R.length) : (R.take (k + 1)).any f = ((R.take k).any f || f R[k]) := by
  rw [List.take_succ_eq_append_getElem hk, List.any_append]; simp only [List.any_cons, List.any_nil, Bool.or_false]

theorem ints_under (n : Nat) (l : List Int) : undersB n (l.map (LV.int .i64)) = true := by
  induction l with
  | nil => rfl
  | cons x l ih => simp [undersB, LV.under, ih]
theorem encI_under (n : Nat) (l : List Int) : (encI l).under n = true := by simp only [encI, LV.under]; exact ints_under n l
theorem rows_under (n : Nat) (R : List (List Int)) : (AObj.cells (R.map encI)).under n := by
  unfold AObj.under
  induction R with
  | nil => rfl
  | cons x l ih => simp only [List.map_cons, undersB, encI_under, ih, Bool.and_self]
theorem set_under {s : List AObj} {p n : Nat} {o' : AObj} (h : o'.under n) : ∀ (i : Nat) (o : AObj), (s.set p o')[i]? = some o → s[i]? = some o ∨ o.under n := by
  intro i o ho
  by_cases e : p = i
  · subst e
    have hl := (List.getElem?_eq_some_iff.1 ho).1
    rw [List.length_set] at hl
    rw [List.getElem?_set_self hl] at ho
    cases ho; exact .inr h
  · rw [List.getElem?_set_ne e] at ho; exact .inl ho

set_option maxHeartbeats 2000000 in
theorem cancel_c {id q r p n : Nat} {t : Int} {R : List (List Int)} {s : List AObj} {v : List Nat} (hn : n ≤ 1000000) (hR : R.length = n) (hb : ∀ x ∈ R, x.length ≤ 1000000)
    (h1 : s[id]? = some (.cells (core q r p n))) (h2 : s[p]? = some (.cells (R.map encI))) (hne : id ≠ p) :
    aCalls Try.prog 20 [.ptr id 0, .int .i64 t] s v fun x s' v' => x = .bool (R.any fun l => l.contains t) ∧ s.set p (.cells (R.map fun l => encI (del t l))) = s' ∧ v = v' := by
  have hid : id < s.length := (List.getElem?_eq_some_iff.1 h1).1
  have hp : p < s.length := (List.getElem?_eq_some_iff.1 h2).1
  refine aCalls_drop ?_
  refine aCalls_of Try.func20 rfl (by decide) (by simp [Try.ntmps20]) false ?_
  simp [Try.f20]
  refine aCalls_mono (by simpa using waits_c) ?_
  rintro _ _ _ ⟨rfl, rfl, rfl⟩
  simp
  refine aW_range (g := 45) (fa := []) (ca := [.ptr (s.length + 3) 0, .ptr (s.length + 4) 0]) (by simp) rfl ?_
  simp
  generalize hlo : ALoop.mk LoopState.ready none _ _ _ _ _ = lo
  let J : Nat → List AObj → List Nat → Prop := fun k s' v' => ∃ K, s.set p (.cells ((gone t k R).map encI)) ++ ([.cells [.ptr id 0], .cells [.int .i64 t], .cells [.bool ((R.take k).any fun l => l.contains t)], .cells [.ptr id 0], .cells [.int .i64 t], .loop lo] ++ K) = s' ∧ v = v'
  refine aCalls_mono (waits1_c (J := J) (R := R) (t := t) (id := id) (q := q) (r := r) (p := p) (n := n) hn hR hb ?_ ?_ ?_ ?_) ?_
  · refine ⟨[], ?_, rfl⟩
    have : gone t 0 R = R := by simp [gone]
    rw [this, List.append_nil]
    congr 1
    apply List.ext_getElem?
    intro i
    by_cases e : p = i
    · subst e; rw [h2]; simp [hp]
    · rw [List.getElem?_set_ne e]
  · rintro k _ _ ⟨K, rfl, rfl⟩
    have hl : (s.set p (.cells ((gone t k R).map encI))).length = s.length := by simp
    refine ⟨?_, ?_, ?_, (gone t k R).map encI, ?_, by simp [gone_length, hR], fun hk => ?_⟩
    · rw [get_at hl]; rfl
    · rw [get_at hl]; rfl
    · rw [get_old (by simpa using hid), List.getElem?_set_ne (by omega), h1]
    · rw [get_old (by simpa using hp)]; simp [hp]
    · simp [gone_at hk]
  · rintro k _ _ ⟨K, rfl, rfl⟩ hk hnot
    refine ⟨K, ?_, rfl⟩
    rw [gone_succ hk, del_id hnot, any_take_succ hk]
    have : (gone t k R).set k R[k] = gone t k R := by
      apply List.ext_getElem?
      intro i
      by_cases e : k = i
      · subst e; rw [gone_at hk]; simp [gone_length, hk]
      · rw [List.getElem?_set_ne e]
    rw [this]
    simp [hnot]
  · rintro k _ _ ⟨K, rfl, rfl⟩ hk hmem
    have hl : (s.set p (.cells ((gone t k R).map encI))).length = s.length := by simp
    refine aRound_of (lp := lo) (by rw [get_at hl]; rfl) (by subst hlo; rfl) (by subst hlo; simp) ?_
    have ha := congrArg ALoop.assign hlo.symm
    have hbo := congrArg ALoop.body hlo.symm
    have ht := congrArg ALoop.tmps hlo.symm
    have hpa := congrArg ALoop.params hlo.symm
    have hsz := congrArg ALoop.size hlo.symm
    have hst := congrArg ALoop.state hlo.symm
    have hpe := congrArg ALoop.pending hlo.symm
    simp only at ha hbo ht hpa hsz hst hpe
    rw [ha, hbo, hsz, hpa, ht]
    refine aC_sound (own := false) _ _ _ ?_
    simp [setParams, get_at hl, set_at hl, hst, hpe]
    refine aC_sound (own := false) _ _ _ ?_
    simp
    refine aW_draw (.qs [0, 1, 2, 3, 4, 5, 6, 7, 8, 9, 10, 11, 13] (.w 12 [3, 0] (.w 14 [3, 0] (.qs [15] (.w 16 [] .nil))))) mixed (by kernel_rfl) (by kernel_rfl) ?_
    clear hbo ha ht
    generalize hs1 : (s.set p _ ++ _) = s1
    have g1 : s1[id]? = some (.cells (core q r p n)) := by rw [← hs1, get_old (by simpa using hid), List.getElem?_set_ne (by omega), h1]
    have g2 : s1[p]? = some (.cells ((gone t k R).map encI)) := by rw [← hs1, get_old (by simpa using hp)]; simp [hp]
    have g3 : s1[s.length]? = some (.cells [.ptr id 0]) := by rw [← hs1, get_at0 hl]; rfl
    have g4 : s1[s.length + 1]? = some (.cells [.int .i64 t]) := by rw [← hs1, get_at hl]; rfl
    have hml : s.length + 5 < s1.length := by rw [← hs1]; simp
    have hkl : k < (gone t k R).length := by rw [gone_length]; exact hk
    have hgk : (gone t k R)[k] = R[k] := by have := gone_at (t := t) hk; rw [List.getElem?_eq_getElem hkl] at this; exact Option.some.inj this
    have hne0 : R[k] ≠ [] := by intro e; rw [e] at hmem; cases hmem
    have hbk := hb _ (List.getElem_mem hk)
    have hkn : k < n := by omega
    have hid1 : id < s1.length := by omega
    have hp1 : p < s1.length := by omega
    have hm0 : s.length < s1.length := by omega
    have hm1 : s.length + 1 < s1.length := by omega
    have hm2 : s.length + 2 < s1.length := by omega
    have g5 : s1[s.length + 2]? = some (.cells [.bool ((R.take k).any fun l => l.contains t)]) := by rw [← hs1, get_at hl]; simp
    have hkl1 : k + 1 ≤ (gone t k R).length := hkl
    simp [g1, g2, g3, core, hkn, hkl, hgk]
    refine aCalls_mono (clone_own hne0 hbk) ?_
    rintro _ _ _ ⟨rfl, rfl, rfl⟩
    simp only [get_old hid1, get_old hm0, g1, g3, core]
    simp
    refine aCalls_mono (deleteFunc_c (id := s1.length) (p := fun x => decide (x = t)) (l := R[k]) hbk hne0 (by simp) (fun x v cs => ?_)) ?_
    · have := is_c (i0 := s.length + 1) (x := x) (t := t) (s := (s1 ++ [AObj.cells (R[k].map (LV.int .i64))]).set s1.length (.cells cs)) (v := v) (by rw [set_app0, get_old hm1, g4])
      simpa using this
    rintro _ _ _ ⟨rfl, rfl, rfl⟩
    simp only [set_app0, get_old hid1, get_old hm0, get_old hp1, g1, g3, g2, core]
    have hpm : p ≠ s.length + 2 := by omega
    have hpm5 : p ≠ s.length + 5 := by omega
    simp [hkl1, encI, List.getElem?_set_ne hpm, get_old hm2, g5]
    have g6 : ∃ lp, s1[s.length + 5]? = some (.loop lp) ∧ ({ lp with state := .ready, pending := none } : ALoop) = lo := by
      refine ⟨_, by rw [← hs1, get_at hl]; rfl, ?_⟩
      cases lo; simp only at hst hpe; subst hst; subst hpe; rfl
    obtain ⟨lp, g6, g7⟩ := g6
    refine ⟨lp, ?_, rfl, K ++ [.cells []], ?_, rfl⟩
    · rw [List.getElem?_set_ne (by omega), List.getElem?_set_ne hpm5, get_old hml, g6]
    · rw [g7, ← hs1]
      have e2 : (List.map encI (gone t k R)).set k (encI (del t R[k])) = List.map encI (gone t (k + 1) R) := by rw [gone_succ hk, List.map_set]
      have hc : (R[k]).contains t = true := by simpa using hmem
      have e1 : LV.imm 1 (List.filter (fun x => !decide (x = t)) R[k]).length (List.map (LV.int .i64) (List.filter (fun x => !decide (x = t)) R[k])) .no = encI (del t R[k]) := rfl
      have hl2 : ∀ o, (s.set p o).length = s.length := fun o => by simp
      dsimp only
      rw [any_take_succ hk, hc, Bool.or_true, List.append_assoc, set_old (by simpa using hp), List.set_set, e1, e2, set_at (hl2 _), set_at (hl2 _)]
      rfl
  · rintro _ _ _ ⟨K, rfl, rfl⟩
    have hl : (s.set p (.cells ((gone t n R).map encI))).length = s.length := by simp
    refine ⟨lo, by rw [get_at hl]; rfl, by subst hlo; simp, ?_⟩
    subst hlo
    simp only [set_at hl]
    generalize hs1 : AObj.loop _ = ob
    simp [get_at hl]
    refine ⟨_, ⟨_, rfl⟩, by simp, by simp [LV.under], ?_, ?_, ?_⟩
    · exact set_under (rows_under _ _)
    · rw [List.take_of_length_le (by omega)]
    · rw [gone_all (by omega), List.map_map]; rfl
end Go.Hb
