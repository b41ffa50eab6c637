/-
  A layer for reasoning about the program's calls, and contracts of its functions (D1). CONDITIONS: none; each theorem bears its own.
-/
import Derived.Test.YtodibkcciihodaaTy
import Derived.Test.YtodibkcciihodaaL5
set_option linter.unusedVariables false
set_option linter.unusedSimpArgs false
section
namespace Go.Hb
open Go Go.Proofs Go.RowKit
attribute [-simp] aC aL aOper aThen aInBlock aIf aPlan aAppend

theorem get_at {s l : List AObj} {m : Nat} (h : s.length = m) (k : Nat) : (s ++ l)[m + k]? = l[k]? := by subst h; exact get_app s l k
theorem get_at0 {s l : List AObj} {m : Nat} (h : s.length = m) : (s ++ l)[m]? = l[0]? := get_at h 0
@[simp] theorem map53 : mapT Try.prog 53 = some 3 := by kernel_rfl

/-! ### timers in memory -/
/-- A timer: its tick, its key. -/
abbrev Tm := Int × Int
def tc (t : Tm) : List LV := [.int .i64 t.1, .int .i64 t.2]
def flat (ts : List Tm) : List LV := ts.flatMap tc
theorem flat_len : ∀ ts : List Tm, (flat ts).length = ts.length * 2
  | [] => rfl
  | t :: ts => by have := flat_len ts; simp only [flat] at this ⊢; rw [List.flatMap_cons, List.length_append, this]; simp [tc]; omega
theorem flat_drop : ∀ (ts : List Tm) (i : Nat) (h : i < ts.length) (rest : List LV), (flat ts ++ rest).drop (i * 2) = tc ts[i] ++ (flat (ts.drop (i + 1)) ++ rest)
  | t :: ts, 0, _, rest => by simp [flat]
  | t :: ts, i + 1, h, rest => by
    have ih := flat_drop ts i (by simpa using h) rest
    have e : (flat (t :: ts) ++ rest) = tc t ++ (flat ts ++ rest) := by simp [flat]
    rw [e, show (i + 1) * 2 = 2 + i * 2 by omega, ← List.drop_drop]
    have : (tc t ++ (flat ts ++ rest)).drop 2 = flat ts ++ rest := by simp [tc]
    rw [this, ih]; simp
theorem flat_get0 (ts : List Tm) (i : Nat) (h : i < ts.length) (rest : List LV) : (flat ts ++ rest)[i * 2]? = some (.int .i64 ts[i].1) := by
  have := congrArg (·[0]?) (flat_drop ts i h rest)
  simpa [tc] using this
theorem flat_get1 (ts : List Tm) (i : Nat) (h : i < ts.length) (rest : List LV) : (flat ts ++ rest)[i * 2 + 1]? = some (.int .i64 ts[i].2) := by
  have := congrArg (·[1]?) (flat_drop ts i h rest)
  simpa [tc] using this
theorem flat_set : ∀ (ts : List Tm) (i : Nat) (h : i < ts.length) (a b : Int) (rest : List LV), ((flat ts ++ rest).set (i * 2) (.int .i64 a)).set (i * 2 + 1) (.int .i64 b) = flat (ts.set i (a, b)) ++ rest
  | t :: ts, 0, _, a, b, rest => by simp [flat, tc]
  | t :: ts, i + 1, h, a, b, rest => by
    have ih := flat_set ts i (by simpa using h) a b rest
    have e : ∀ t ts, (flat (t :: ts) ++ rest) = .int .i64 t.1 :: .int .i64 t.2 :: (flat ts ++ rest) := fun t ts => by simp [flat, tc]
    rw [List.set_cons_succ, e, e, show (i + 1) * 2 + 1 = (i * 2 + 1) + 1 + 1 by omega, show (i + 1) * 2 = i * 2 + 1 + 1 by omega, List.set_cons_succ, List.set_cons_succ, List.set_cons_succ, List.set_cons_succ, ih]

theorem flat_set' (ts : List Tm) (i : Nat) (h : i < ts.length) (a b : Int) (rest : List LV) : (((flat ts).set (i * 2) (.int .i64 a)) ++ rest).set (i * 2 + 1) (.int .i64 b) = flat (ts.set i (a, b)) ++ rest := by
  have := flat_len ts
  rw [← flat_set ts i h a b rest, List.set_append_left (s := flat ts) (i * 2) _ (by omega)]

/-- The list's slice. -/
def lvOf (lo : Option Nat) (n : Nat) : LV := match lo with | none => .nils | some l => .ref 2 l 0 n false

/-- A heap in memory: at hp, its map at mid, its row at lo. -/
structure HS (s : List AObj) (hp mid : Nat) (lo : Option Nat) (ts : List Tm) (f : Int → Option LV) (st : Int) : Prop where
  hh : s[hp]? = some (.cells [lvOf lo ts.length, .mapr mid, .int .i64 st])
  hm : s[mid]? = some (.map f)
  ne : hp ≠ mid
  hl : ∀ l, lo = some l → l ≠ hp ∧ l ≠ mid ∧ ∃ r, s[l]? = some (.cells (flat ts ++ flat r)) ∧ ts ++ r ≠ []
  h0 : lo = none → ts = []
  small : ts.length ≤ 100000
  vals : ∀ k x, f k = some x → ∃ j : Nat, x = .int .i64 j

/-- Nothing else turned. -/
def Same (hp mid : Nat) (lo : Option Nat) (s s' : List AObj) : Prop := s.length ≤ s'.length ∧ ∀ i, i < s.length → i ≠ hp → i ≠ mid → lo ≠ some i → s'[i]? = s[i]?
theorem Same.refl (hp mid : Nat) (lo : Option Nat) (s : List AObj) : Same hp mid lo s s := ⟨Nat.le_refl _, fun _ _ _ _ _ => rfl⟩
theorem Same.trans {hp mid : Nat} {lo : Option Nat} {a b c : List AObj} (h : Same hp mid lo a b) (k : Same hp mid lo b c) : Same hp mid lo a c :=
  ⟨Nat.le_trans h.1 k.1, fun i hi h1 h2 h3 => (k.2 i (Nat.lt_of_lt_of_le hi h.1) h1 h2 h3).trans (h.2 i hi h1 h2 h3)⟩

def lt2 (a b : Tm) : Bool := decide (a.1 < b.1) || (decide (a.1 = b.1) && decide (a.2 < b.2))
def cmpI (a b : Int) : Int := if a < b then -1 else if b < a then 1 else 0
def cmp2 (a b : Tm) : Int := if cmpI a.1 b.1 = 0 then cmpI a.2 b.2 else cmpI a.1 b.1
theorem cmp2_lt (a b : Tm) : (cmp2 a b < 0) ↔ lt2 a b = true := by
  unfold cmp2 cmpI lt2
  simp only [Bool.or_eq_true, Bool.and_eq_true, decide_eq_true_eq]
  split <;> rename_i h <;> (try split at h) <;> (try split at h) <;> (repeat' split) <;> omega

section
variable {s : List AObj} {v : List Nat}

theorem isNaN_p {a : Int} : PureE Try.prog 44 [.int .i64 a] (.bool false) := by
  refine .of fun s v => ?_
  refine aCalls_of Try.func44 rfl (by decide) (by simp [Try.ntmps44]) false ?_
  have hres : Try.f44.results = #[.tmp 2] := rfl
  simp [Try.ntmps44, hres]
  exact EndsE.same rfl (Weak.refl _)

set_option maxHeartbeats 2000000 in
theorem cmp_p {a b : Int} : PureE Try.prog 39 [.int .i64 a, .int .i64 b] (.int .i64 (cmpI a b)) := by
  refine .of fun s v => ?_
  refine aCalls_of Try.func39 rfl (by decide) (by simp [Try.ntmps39]) false ?_
  have hres : Try.f39.results = #[.tmp 4] := rfl
  simp [Try.ntmps39]
  refine aCalls_mono (isNaN_p _ _) ?_
  rintro _ _ _ ⟨rfl, rfl, rfl⟩
  simp
  refine aCalls_mono (isNaN_p _ _) ?_
  rintro _ _ _ ⟨rfl, rfl, rfl⟩
  by_cases h1 : a < b
  · simp [h1, hres, cmpI]; exact EndsE.same rfl (Weak.refl _)
  · by_cases h2 : b < a
    · simp [h1, h2, hres, cmpI]; exact EndsE.same rfl (Weak.refl _)
    · simp [h1, h2, hres, cmpI]; exact EndsE.same rfl (Weak.refl _)

set_option maxHeartbeats 4000000 in
theorem or_p {a b : Int} {r : Right} : PureE Try.prog 38 [.imm 1 2 [.int .i64 a, .int .i64 b] r] (.int .i64 (if a = 0 then b else a)) := by
  refine .of fun s v => ?_
  refine aCalls_of Try.func38 rfl (by decide) (by simp [Try.ntmps38]) false ?_
  have hres : Try.f38.results = #[.tmp 2] := rfl
  simp [Try.ntmps38]
  refine aW_forC false 2 (fun k st => (0 < k → a = 0) ∧ (1 < k → b = 0) ∧ st.t 8 = .int .i64 k ∧ st.t 7 = .int .i64 2 ∧ st.t 3 = .int .i64 0 ∧ st.t 6 = .imm 1 2 [.int .i64 a, .int .i64 b] r ∧ s = st.s ∧ v = st.v) ?_ ?_
  · exact ⟨0, Nat.zero_le _, by simp [upd_apply]⟩
  rintro k t1 s1 v1 hk ⟨ha, hb, h8, h7, h3, h6, rfl, rfl⟩
  simp only at h8 h7 h3 h6
  match k, hk with
  | 0, _ =>
    by_cases h0 : a = 0
    · simp [h8, h7, h3, h6, h0]
      exact hid ⟨by omega, fun _ => h0, fun h => absurd h (by omega), by simp [upd_apply], by simp [upd_apply, h7], by simp [upd_apply, h3], by simp [upd_apply, h6, h0], rfl, rfl⟩
    · simp [h8, h7, h3, h6, h0, hres]
      exact EndsE.same rfl (Weak.refl _)
  | 1, _ =>
    have h0 := ha (by omega)
    by_cases h1 : b = 0
    · simp [h8, h7, h3, h6, h0, h1]
      exact hid ⟨by omega, fun _ => h0, fun _ => h1, by simp [upd_apply], by simp [upd_apply, h7], by simp [upd_apply, h3], by simp [upd_apply, h6, h0, h1], rfl, rfl⟩
    · simp [h8, h7, h3, h6, h0, h1, hres]
      exact EndsE.same rfl (Weak.refl _)
  | 2, _ =>
    have h0 := ha (by omega)
    have h1 := hb (by omega)
    simp [h8, h7, h3, h6, h0, h1, hres]
    exact EndsE.same rfl (Weak.refl _)

set_option maxHeartbeats 4000000 in
theorem compare_p {a b : Tm} : PureE Try.prog 32 [.agg (tc a), .agg (tc b)] (.int .i64 (cmp2 a b)) := by
  refine .of fun s v => ?_
  refine aCalls_of Try.func32 rfl (by decide) (by simp [Try.ntmps32]) false ?_
  have hres : Try.f32.results = #[.tmp 4] := rfl
  simp [Try.ntmps32, tc, get_app, get_app0]
  refine aW_draw' (.qs [0, 1, 2, 3, 5, 6, 7, 8] (.w 4 [8, 6] (.w 9 [] (.qs [10] (.w 11 [] (.qs [12] .nil)))))) mixed (by kernel_rfl) (by kernel_rfl) ?_
  simp [get_app, get_app0]
  refine aCalls_mono (cmp_p _ _) ?_
  rintro _ _ _ ⟨rfl, rfl, rfl⟩
  simp [get_app, get_app0]
  refine aCalls_mono (cmp_p _ _) ?_
  rintro _ _ _ ⟨rfl, rfl, rfl⟩
  simp [zeros]
  refine aCalls_mono (or_p _ _) ?_
  rintro _ _ _ ⟨rfl, rfl, rfl⟩
  simp [hres]
  exact EndsE.at rfl (Weak.refl _)
end
end Go.Hb
end

section
namespace Go.Hb
open Go Go.Proofs Go.RowKit
attribute [-simp] aC aL aOper aThen aInBlock aIf aPlan aAppend

theorem flat_under (m : Nat) : ∀ ts : List Tm, undersB m (flat ts) = true
  | [] => rfl
  | t :: ts => by
    have := flat_under m ts
    simp only [flat] at this ⊢
    simp [tc, undersB, LV.under, this]
theorem undersB_app (m : Nat) : ∀ (a b : List LV), undersB m a = true → undersB m b = true → undersB m (a ++ b) = true
  | [], _, _, h => h
  | x :: a, b, h, k => by
    simp only [undersB, Bool.and_eq_true] at h
    simp only [List.cons_append, undersB, Bool.and_eq_true]
    exact ⟨h.1, undersB_app m a b h.2 k⟩

section
variable {s : List AObj} {v : List Nat} {hp mid l : Nat} {ts r : List Tm} {f : Int → Option LV} {st : Int}

/-- The heap's objects, its row at l, with r behind it. -/
structure HL (s : List AObj) (hp mid l : Nat) (ts r : List Tm) (f : Int → Option LV) (st : Int) : Prop where
  hh : s[hp]? = some (.cells [.ref 2 l 0 ts.length false, .mapr mid, .int .i64 st])
  hm : s[mid]? = some (.map f)
  hl : s[l]? = some (.cells (flat ts ++ flat r))
  ne : hp ≠ mid
  ne1 : l ≠ hp
  ne2 : l ≠ mid
  nn : ts ++ r ≠ []
  small : ts.length ≤ 100000
  vals : ∀ k x, f k = some x → ∃ j : Nat, x = .int .i64 j

def hcell (l n mid : Nat) (st : Int) : AObj := .cells [.ref 2 l 0 n false, .mapr mid, .int .i64 st]

theorem HL.lth (H : HL s hp mid l ts r f st) : hp < s.length := (List.getElem?_eq_some_iff.1 H.hh).1
theorem HL.ltm (H : HL s hp mid l ts r f st) : mid < s.length := (List.getElem?_eq_some_iff.1 H.hm).1
theorem HL.ltl (H : HL s hp mid l ts r f st) : l < s.length := (List.getElem?_eq_some_iff.1 H.hl).1

theorem HL.step (H : HL s hp mid l ts r f st) (st' : Int) : HL (s.set hp (hcell l ts.length mid st')) hp mid l ts r f st' :=
  ⟨List.getElem?_set_self H.lth, by rw [List.getElem?_set_ne H.ne]; exact H.hm, by rw [List.getElem?_set_ne (Ne.symm H.ne1)]; exact H.hl, H.ne, H.ne1, H.ne2, H.nn, H.small, H.vals⟩
theorem same_set (hp mid : Nat) (lo : Option Nat) (s : List AObj) {i : Nat} (o : AObj) (hi : i = hp ∨ i = mid ∨ lo = some i) : Same hp mid lo s (s.set i o) :=
  ⟨by simp, fun j hj h1 h2 h3 => by
    have : i ≠ j := by
      rintro rfl
      rcases hi with h | h | h
      · exact h1 h
      · exact h2 h
      · exact h3 h
    rw [List.getElem?_set_ne this]⟩

set_option maxRecDepth 10000 in
set_option maxHeartbeats 4000000 in
theorem less_c (H : HL s hp mid l ts r f st) {i k : Nat} (hi : i < ts.length) (hk : k < ts.length) (hst : 0 ≤ st ∧ st ≤ 1000000000) :
    aCalls Try.prog 40 [.ptr hp 0, .int .i64 i, .int .i64 k] s v fun y s' v' => y = .bool (lt2 ts[i] ts[k]) ∧ s.set hp (hcell l ts.length mid (st + 1)) = s' ∧ v = v' := by
  refine aCalls_of Try.func40 rfl (by decide) (by simp [Try.ntmps40]) false ?_
  have hres : Try.f40.results = #[.tmp 6] := rfl
  have hw : IntKind.i64.wrap (st + 1) = st + 1 := IntWalk.i64_in _ ⟨by omega, by omega⟩
  have hi' : (i : Int) < (ts.length : Int) := by omega
  have hk' : (k : Int) < (ts.length : Int) := by omega
  have e1 : ∀ o, (s.set hp o)[hp]? = some o := fun o => List.getElem?_set_self H.lth
  have e2 : ∀ o, (s.set hp o)[l]? = some (.cells (flat ts ++ flat r)) := fun o => by rw [List.getElem?_set_ne (Ne.symm H.ne1)]; exact H.hl
  have d1 := flat_drop ts i hi (flat r)
  have d2 := flat_drop ts k hk (flat r)
  have hfl := flat_len ts
  have t1 : ∀ (t : Tm) X, List.take 2 (tc t ++ X) = tc t := fun t X => rfl
  have b1 : i * 2 + 2 ≤ ts.length * 2 + (flat r).length := by omega
  have b2 : k * 2 + 2 ≤ ts.length * 2 + (flat r).length := by omega
  simp [Try.ntmps40, H.hh, hw]
  refine aW_draw' (.qs [0, 1, 2, 3, 4, 5, 6, 7, 8, 9, 10, 11, 12, 13] (.w 14 [] (.qs [15, 16] .nil))) mixed (by kernel_rfl) (by kernel_rfl) ?_
  simp [e1, e2, hi, hk, hi', hk', d1, d2, hfl, t1, b1, b2]
  refine aCalls_mono (compare_p _ _) ?_
  rintro _ _ _ ⟨rfl, rfl, rfl⟩
  have hc := cmp2_lt ts[i] ts[k]
  have hd : decide (cmp2 ts[i] ts[k] < 0) = lt2 ts[i] ts[k] := by rw [Bool.eq_iff_iff, decide_eq_true_eq]; exact hc
  simp [hres, hd, hcell]

def putS (s : List AObj) (mid l i : Nat) (ts r : List Tm) (f : Int → Option LV) (t : Tm) : List AObj := (s.set l (.cells (flat (ts.set i t) ++ flat r))).set mid (.map (fput f t.2 (.int .i64 i)))
theorem HL.put (H : HL s hp mid l ts r f st) {i : Nat} (hi : i < ts.length) (t : Tm) : HL (putS s mid l i ts r f t) hp mid l (ts.set i t) r (fput f t.2 (.int .i64 i)) st := by
  have hl := H.ltl
  have hm := H.ltm
  unfold putS
  refine ⟨by rw [List.getElem?_set_ne (Ne.symm H.ne), List.getElem?_set_ne H.ne1, List.length_set]; exact H.hh, by rw [List.getElem?_set_self (by simpa using hm)], by rw [List.getElem?_set_ne (Ne.symm H.ne2), List.getElem?_set_self hl], H.ne, H.ne1, H.ne2, ?_, by simpa using H.small, ?_⟩
  · intro e; have := H.nn; simp at e; simp [e] at this
  · intro k x hx
    unfold fput at hx
    split at hx
    · simp at hx; subst hx; exact ⟨i, rfl⟩
    · exact H.vals k x hx

set_option maxRecDepth 10000 in
set_option maxHeartbeats 4000000 in
theorem put_c (H : HL s hp mid l ts r f st) {i : Nat} (hi : i < ts.length) {t : Tm} :
    aCalls Try.prog 27 [.ptr hp 0, .int .i64 i, .agg (tc t)] s v fun y s' v' => y = .tup [] ∧ putS s mid l i ts r f t = s' ∧ v = v' := by
  refine aCalls_drop ?_
  refine aCalls_of Try.func27 rfl (by decide) (by simp [Try.ntmps27]) false ?_
  have hres : Try.f27.results = #[] := rfl
  have hi' : (i : Int) < (ts.length : Int) := by omega
  have g1 : ∀ J, (s ++ J)[hp]? = s[hp]? := fun J => List.getElem?_append_left H.lth
  have g2 : ∀ J, (s ++ J)[mid]? = s[mid]? := fun J => List.getElem?_append_left H.ltm
  have g3 : ∀ J, (s ++ J)[l]? = s[l]? := fun J => List.getElem?_append_left H.ltl
  have k1 : ∀ J o, (s ++ J).set l o = s.set l o ++ J := fun J o => set_old H.ltl o
  have e1 : ∀ o J, (s.set l o ++ J)[hp]? = s[hp]? := fun o J => by rw [List.getElem?_append_left (by simpa using H.lth), List.getElem?_set_ne H.ne1]
  have e2 : ∀ o J, (s.set l o ++ J)[mid]? = s[mid]? := fun o J => by rw [List.getElem?_append_left (by simpa using H.ltm), List.getElem?_set_ne H.ne2]
  have e3 : ∀ o J, (s.set l o ++ J)[s.length]? = J[0]? := fun o J => get_at0 (by simp)
  have k2 : ∀ o J o', (s.set l o ++ J).set mid o' = (s.set l o).set mid o' ++ J := fun o J o' => set_old (by simpa using H.ltm) o'
  have hfl := flat_len ts
  have b1 : i * 2 + 2 ≤ ts.length * 2 + (flat r).length := by omega
  have hs := flat_set' ts i hi t.1 t.2 (flat r)
  simp [Try.ntmps27, tc, get_app, get_app0]
  refine aW_draw' (.qs [0, 1, 2, 3, 4, 5, 6] (.w 7 [] .nil)) mixed (by kernel_rfl) (by kernel_rfl) ?_
  simp [g1, g2, g3, H.hh, H.hm, H.hl, hi', hi, hfl, b1, get_app, get_app0, k1, hs]
  refine aW_draw' (.qs [0, 1, 2, 3, 4, 5, 6] (.w 7 [] .nil)) mixed (by kernel_rfl) (by kernel_rfl) ?_
  simp [e1, e2, e3, H.hh, H.hm, k2, get_app, get_app0, hres]
  refine ⟨putS s mid l i ts r f t, ⟨_, rfl⟩, by simp [putS], by simp [LV.under, undersB], fun j o hj => ?_, rfl⟩
  unfold putS at hj
  by_cases h1 : mid = j
  · subst h1
    rw [List.getElem?_set_self (by simpa using H.ltm)] at hj
    cases hj
    right
    intro k x hx
    unfold fput at hx
    split at hx
    · simp at hx; subst hx; rfl
    · obtain ⟨n, rfl⟩ := H.vals k x hx; rfl
  · rw [List.getElem?_set_ne h1] at hj
    by_cases h2 : l = j
    · subst h2
      rw [List.getElem?_set_self H.ltl] at hj
      cases hj
      right
      exact undersB_app _ _ _ (flat_under _ _) (flat_under _ _)
    · rw [List.getElem?_set_ne h2] at hj; exact .inl hj
end
end Go.Hb
end

section
namespace Go.Hb
open Go Go.Proofs Go.RowKit
attribute [-simp] aC aL aOper aThen aInBlock aIf aPlan aAppend

section
variable {s : List AObj} {v : List Nat} {hp mid l : Nat} {ts r : List Tm} {f : Int → Option LV} {st : Int}

theorem HL.app (H : HL s hp mid l ts r f st) (J : List AObj) : HL (s ++ J) hp mid l ts r f st :=
  ⟨by rw [List.getElem?_append_left H.lth]; exact H.hh, by rw [List.getElem?_append_left H.ltm]; exact H.hm, by rw [List.getElem?_append_left H.ltl]; exact H.hl, H.ne, H.ne1, H.ne2, H.nn, H.small, H.vals⟩
theorem putS_app (H : HL s hp mid l ts r f st) (J : List AObj) (i : Nat) (t : Tm) : putS (s ++ J) mid l i ts r f t = putS s mid l i ts r f t ++ J := by
  unfold putS
  rw [List.set_append_left _ _ H.ltl, List.set_append_left _ _ (by simpa using H.ltm)]
theorem putS_len (s : List AObj) (mid l i : Nat) (ts r : List Tm) (f : Int → Option LV) (t : Tm) : (putS s mid l i ts r f t).length = s.length := by simp [putS]

def swp (ts : List Tm) (i k : Nat) : List Tm := (ts.set i (ts.getD k (0, 0))).set k (ts.getD i (0, 0))
def swpF (ts : List Tm) (f : Int → Option LV) (i k : Nat) : Int → Option LV := fput (fput f (ts.getD k (0, 0)).2 (.int .i64 i)) (ts.getD i (0, 0)).2 (.int .i64 k)
def swapS (s : List AObj) (mid l i k : Nat) (ts r : List Tm) (f : Int → Option LV) : List AObj :=
  putS (putS s mid l i ts r f (ts.getD k (0, 0))) mid l k (ts.set i (ts.getD k (0, 0))) r (fput f (ts.getD k (0, 0)).2 (.int .i64 i)) (ts.getD i (0, 0))

theorem HL.swap (H : HL s hp mid l ts r f st) {i k : Nat} (hi : i < ts.length) (hk : k < ts.length) : HL (swapS s mid l i k ts r f) hp mid l (swp ts i k) r (swpF ts f i k) st :=
  (H.put hi _).put (by simpa using hk) _

theorem ints_under' {s : List AObj} (H : HL s hp mid l ts r f st) {s' : List AObj} {f' : Int → Option LV} {ts' r' : List Tm} (n : Nat) (hm : s'[mid]? = some (.map f')) (hl : s'[l]? = some (.cells (flat ts' ++ flat r'))) (hv : ∀ k x, f' k = some x → ∃ j : Nat, x = .int .i64 j)
    (ho : ∀ j, j ≠ mid → j ≠ l → s'[j]? = s[j]?) : ∀ (i : Nat) (o : AObj), s'[i]? = some o → s[i]? = some o ∨ o.under n := fun j o hj => by
  by_cases h1 : j = mid
  · subst h1; rw [hm] at hj; cases hj
    right; intro k x hx; obtain ⟨m, rfl⟩ := hv k x hx; rfl
  · by_cases h2 : j = l
    · subst h2; rw [hl] at hj; cases hj
      right; exact undersB_app _ _ _ (flat_under _ _) (flat_under _ _)
    · left; rw [← ho j h1 h2]; exact hj

theorem putS_other (s : List AObj) (mid l i : Nat) (ts r : List Tm) (f : Int → Option LV) (t : Tm) {j : Nat} (h1 : j ≠ mid) (h2 : j ≠ l) : (putS s mid l i ts r f t)[j]? = s[j]? := by
  unfold putS; rw [List.getElem?_set_ne (Ne.symm h1), List.getElem?_set_ne (Ne.symm h2)]

set_option maxRecDepth 10000 in
set_option maxHeartbeats 8000000 in
theorem swap_c (H : HL s hp mid l ts r f st) {i k : Nat} (hi : i < ts.length) (hk : k < ts.length) :
    aCalls Try.prog 29 [.ptr hp 0, .int .i64 i, .int .i64 k] s v fun y s' v' => y = .tup [] ∧ swapS s mid l i k ts r f = s' ∧ v = v' := by
  refine aCalls_drop ?_
  refine aCalls_of Try.func29 rfl (by decide) (by simp [Try.ntmps29]) false ?_
  have hres : Try.f29.results = #[] := rfl
  have hi' : (i : Int) < (ts.length : Int) := by omega
  have hk' : (k : Int) < (ts.length : Int) := by omega
  have gi : ts.getD i (0, 0) = ts[i] := by simp [hi]
  have gk : ts.getD k (0, 0) = ts[k] := by simp [hk]
  have d1 := flat_drop ts i hi (flat r)
  have d2 := flat_drop ts k hk (flat r)
  have hfl := flat_len ts
  have t1 : ∀ (t : Tm) X, List.take 2 (tc t ++ X) = tc t := fun t X => rfl
  have b1 : i * 2 + 2 ≤ ts.length * 2 + (flat r).length := by omega
  have b2 : k * 2 + 2 ≤ ts.length * 2 + (flat r).length := by omega
  have g1 : ∀ J, (s ++ J)[hp]? = s[hp]? := fun J => List.getElem?_append_left H.lth
  have g3 : ∀ J, (s ++ J)[l]? = s[l]? := fun J => List.getElem?_append_left H.ltl
  simp [Try.ntmps29]
  refine aW_draw' (.qs [0, 1, 2, 3, 4, 5, 6, 7, 8, 9, 10, 11, 12, 13] (.or (.w 14 [13, 10, 6, 3] (.w 15 [13, 10, 6, 3] (.w 16 [13, 10] (.w 17 [] .nil)))) (.w 15 [13, 10, 6, 3] (.w 14 [13, 10, 6, 3] (.w 16 [13, 10] (.w 17 [] .nil)))))) mixed (by kernel_rfl) (by kernel_rfl) ?_
  have hp1 := fun J v => put_c (v := v) (H.app J) hi (t := ts[k])
  have hp2 := fun J v => put_c (v := v) ((H.put hi ts[k]).app J) (i := k) (by simpa using hk) (t := ts[i])
  have hp3 := fun J => putS_app H J i ts[k]
  have hp4 := fun J => putS_app (H.put hi ts[k]) J k ts[i]
  have hlen := putS_len s mid l i ts r f ts[k]
  have w0 : ∀ J, (putS s mid l i ts r f ts[k] ++ J)[s.length]? = J[0]? := fun J => get_at0 hlen
  have w1 : ∀ J j, (putS s mid l i ts r f ts[k] ++ J)[s.length + j]? = J[j]? := fun J j => get_at hlen j
  simp [tc, g1, g3, H.hh, H.hl, hi, hk, hi', hk', d1, d2, hfl, t1, b1, b2, get_app, get_app0, set_app, set_app0]
  constructor
  all_goals
    refine aCalls_mono (hp1 _ _) ?_
    rintro _ _ _ ⟨rfl, rfl, rfl⟩
    rw [hp3]
    simp [w0, w1]
    refine aCalls_mono (hp2 _ _) ?_
    rintro _ _ _ ⟨rfl, rfl, rfl⟩
    rw [hp4]
    simp [hres]
    have hsw := H.swap hi hk
    unfold swapS at hsw
    rw [gi, gk] at hsw
    refine ⟨_, ⟨_, rfl⟩, by rw [putS_len, putS_len], by simp [LV.under, undersB], ints_under' H _ hsw.hm hsw.hl hsw.vals (fun j h1 h2 => by rw [putS_other _ _ _ _ _ _ _ _ h1 h2, putS_other _ _ _ _ _ _ _ _ h1 h2]), ?_⟩
    unfold swapS; rw [gi, gk]
end
end Go.Hb
end

section
namespace Go.Hb
open Go Go.Proofs Go.RowKit
attribute [-simp] aC aL aOper aThen aInBlock aIf aPlan aAppend

/-! ### where each key stands -/
def tg (ts : List Tm) (i : Nat) : Tm := ts.getD i (0, 0)
theorem tg_eq {ts : List Tm} {i : Nat} (h : i < ts.length) : tg ts i = ts[i] := by simp [tg, h]
structure Idx (ts : List Tm) (f : Int → Option LV) : Prop where
  at_ : ∀ i, i < ts.length → f (tg ts i).2 = some (.int .i64 i)
  in_ : ∀ k x, f k = some x → ∃ i, i < ts.length ∧ (tg ts i).2 = k
theorem Idx.inj {ts : List Tm} {f : Int → Option LV} (h : Idx ts f) {i k : Nat} (hi : i < ts.length) (hk : k < ts.length) (e : (tg ts i).2 = (tg ts k).2) : i = k := by
  have h1 := h.at_ i hi
  rw [e, h.at_ k hk] at h1
  simp at h1; omega

theorem swp_len (ts : List Tm) (i k : Nat) : (swp ts i k).length = ts.length := by simp [swp]
theorem swp_get {ts : List Tm} {i k : Nat} (hi : i < ts.length) (hk : k < ts.length) (j : Nat) : tg (swp ts i k) j = if j = k then tg ts i else if j = i then tg ts k else tg ts j := by
  unfold swp tg
  rw [List.getD_eq_getElem?_getD, List.getElem?_set]
  by_cases h1 : k = j
  · subst h1; simp [hk]
  · rw [if_neg h1, if_neg (Ne.symm h1), List.getElem?_set]
    by_cases h2 : i = j
    · subst h2; simp [hi]
    · rw [if_neg h2, if_neg (Ne.symm h2), List.getD_eq_getElem?_getD]

theorem Idx.swap {ts : List Tm} {f : Int → Option LV} (h : Idx ts f) {i k : Nat} (hi : i < ts.length) (hk : k < ts.length) : Idx (swp ts i k) (swpF ts f i k) := by
  constructor
  · intro j hj
    have hj' : j < ts.length := by rwa [swp_len] at hj
    rw [swp_get hi hk]
    show fput (fput f (tg ts k).2 (.int .i64 i)) (tg ts i).2 (.int .i64 k) _ = _
    unfold fput
    by_cases h1 : j = k
    · subst h1; simp
    · rw [if_neg h1]
      by_cases h2 : j = i
      · subst h2
        have hne : ¬ (tg ts k).2 = (tg ts j).2 := fun e => h1 (h.inj hj' hk e.symm)
        rw [if_pos rfl, if_neg hne, if_pos rfl]
      · rw [if_neg h2]
        have n1 : ¬ (tg ts j).2 = (tg ts i).2 := fun e => h2 (h.inj hj' hi e)
        have n2 : ¬ (tg ts j).2 = (tg ts k).2 := fun e => h1 (h.inj hj' hk e)
        rw [if_neg n1, if_neg n2]
        exact h.at_ j hj'
  · intro key x hx
    have hx : fput (fput f (tg ts k).2 (.int .i64 i)) (tg ts i).2 (.int .i64 k) key = some x := hx
    unfold fput at hx
    have mk : ∀ j, j < ts.length → ∃ j', j' < (swp ts i k).length ∧ (tg (swp ts i k) j').2 = (tg ts j).2 := fun j hj => by
      by_cases h1 : j = i
      · subst h1; exact ⟨k, by rw [swp_len]; exact hk, by rw [swp_get hi hk]; simp⟩
      · by_cases h2 : j = k
        · subst h2
          exact ⟨i, by rw [swp_len]; exact hi, by rw [swp_get hi hk, if_neg (fun e => h1 e.symm)]; simp⟩
        · exact ⟨j, by rw [swp_len]; exact hj, by rw [swp_get hi hk, if_neg h2, if_neg h1]⟩
    split at hx
    · rename_i e; obtain ⟨j', h1, h2⟩ := mk i hi; exact ⟨j', h1, by rw [h2, e]⟩
    · split at hx
      · rename_i e; obtain ⟨j', h1, h2⟩ := mk k hk; exact ⟨j', h1, by rw [h2, e]⟩
      · obtain ⟨j, hj, e⟩ := h.in_ key x hx
        obtain ⟨j', h1, h2⟩ := mk j hj; exact ⟨j', h1, by rw [h2, e]⟩

/-- A heap in memory, whose map tells where each key stands. -/
structure HI (s : List AObj) (hp mid l : Nat) (ts r : List Tm) (st : Int) : Prop where
  ex : ∃ f, HL s hp mid l ts r f st ∧ Idx ts f

/-! ### a timer rises -/
def upL (ts : List Tm) (i : Nat) : List Tm × Nat × Nat :=
  if h : i = 0 then (ts, 0, 0) else
    if lt2 (tg ts i) (tg ts ((i - 1) / 2)) = true then ((upL (swp ts i ((i - 1) / 2)) ((i - 1) / 2)).1, (upL (swp ts i ((i - 1) / 2)) ((i - 1) / 2)).2.1, (upL (swp ts i ((i - 1) / 2)) ((i - 1) / 2)).2.2 + 1) else (ts, i, 1)
termination_by i
decreasing_by all_goals omega

section
variable {s : List AObj} {v : List Nat} {hp mid l : Nat} {ts r : List Tm} {st : Int}

def HPost (s : List AObj) (hp mid l : Nat) (ts r : List Tm) (st : Int) (v : List Nat) (y : LV) (s' : List AObj) (v' : List Nat) : Prop := y = .tup [] ∧ HI s' hp mid l ts r st ∧ Same hp mid (some l) s s' ∧ s'.length = s.length ∧ v = v'

theorem swapS_same (s : List AObj) (hp mid l i k : Nat) (ts r : List Tm) (f : Int → Option LV) : Same hp mid (some l) s (swapS s mid l i k ts r f) := by
  unfold swapS putS
  exact (((same_set hp mid (some l) s _ (.inr (.inr rfl))).trans (same_set _ _ _ _ _ (.inr (.inl rfl)))).trans (same_set _ _ _ _ _ (.inr (.inr rfl)))).trans (same_set _ _ _ _ _ (.inr (.inl rfl)))
theorem swapS_len (s : List AObj) (mid l i k : Nat) (ts r : List Tm) (f : Int → Option LV) : (swapS s mid l i k ts r f).length = s.length := by simp [swapS, putS]

set_option maxRecDepth 10000 in
set_option maxHeartbeats 8000000 in
theorem up_c (H : HI s hp mid l ts r st) {i : Nat} (hi : i < ts.length) (hst : 0 ≤ st ∧ st ≤ 500000000) :
    aCalls Try.prog 33 [.ptr hp 0, .int .i64 i] s v (HPost s hp mid l (upL ts i).1 r (st + (upL ts i).2.2) v) := by
  refine aCalls_of Try.func33 rfl (by decide) (by simp [Try.ntmps33]) false ?_
  have hres : Try.f33.results = #[] := rfl
  obtain ⟨f, HL0, hI0⟩ := H.ex
  have hsm := HL0.small
  simp [Try.ntmps33]
  refine aW_downC false (fun d st' => ∃ ts' f' n, ts'.length = ts.length ∧ d < ts.length ∧ HL st'.s hp mid l ts' r f' (st + (n : Nat)) ∧ Idx ts' f' ∧ (upL ts' d).1 = (upL ts i).1 ∧ n + (upL ts' d).2.2 = (upL ts i).2.2 ∧ n + d ≤ i ∧ st'.t 0 = .ptr hp 0 ∧ st'.t 1 = .int .i64 d ∧ Same hp mid (some l) s st'.s ∧ st'.s.length = s.length ∧ v = st'.v) ?_ ?_
  · exact ⟨i, ts, f, 0, rfl, hi, by simpa using HL0, hI0, rfl, by simp, by omega, by simp [upd_apply], by simp [upd_apply], Same.refl _ _ _ _, rfl, rfl⟩
  rintro d t1 s1 v1 ⟨ts', f', n, hlen, hd, HL1, hI1, e1, e2, e3, h0, h1, hS, hsl, rfl⟩
  simp only at HL1 h0 h1 hS hsl
  by_cases hd0 : d = 0
  · subst hd0
    rw [upL] at e1 e2
    simp at e1 e2
    simp [h0, h1, hres]
    exact ⟨rfl, ⟨f', by rw [← e1, ← e2]; exact HL1, by rw [← e1]; exact hI1⟩, hS, hsl, rfl⟩
  · have hd1 : (0 : Int) < (d : Int) := by omega
    have hw1 : IntKind.i64.wrap ((d : Int) - 1) = ((d - 1 : Nat) : Int) := by rw [IntWalk.i64_in _ ⟨by omega, by omega⟩]; omega
    obtain ⟨q, hqd⟩ : ∃ q, q = (d - 1) / 2 := ⟨_, rfl⟩
    have hd2 : 0 < d := by omega
    have hq : Int.tdiv ((d - 1 : Nat) : Int) 2 = (q : Int) := by rw [Int.tdiv_eq_ediv_of_nonneg (by omega)]; omega
    have hw2 : IntKind.i64.wrap (q : Int) = (q : Int) := IntWalk.i64_in _ ⟨by omega, by omega⟩
    have hdl : d < ts'.length := by omega
    have hpl : q < ts'.length := by omega
    have gd := tg_eq hdl
    have gp := tg_eq hpl
    rw [upL] at e1 e2
    rw [dif_neg hd0, ← hqd, gd, gp] at e1 e2
    simp [h0, h1, hd1, hd2, hw1, hq, hw2]
    refine aCalls_mono (less_c HL1 hdl hpl (by omega)) ?_
    rintro _ _ _ ⟨rfl, rfl, rfl⟩
    have HL2 := HL1.step (st + (n : Nat) + 1)
    have hS2 := hS.trans (same_set hp mid (some l) s1 (hcell l ts'.length mid (st + (n : Nat) + 1)) (.inl rfl))
    cases hlt : lt2 ts'[d] ts'[q] with
    | false =>
      rw [hlt] at e1 e2
      simp at e1 e2
      simp [h0, h1, hres]
      exact ⟨rfl, ⟨f', by rw [← e1, ← e2]; simpa [Int.add_assoc] using HL2, by rw [← e1]; exact hI1⟩, hS2, by simpa using hsl, rfl⟩
    | true =>
      rw [hlt] at e1 e2
      simp only [if_true] at e1 e2
      simp [h0, h1, hw1, hq, hw2]
      refine aCalls_mono (swap_c HL2 hdl hpl) ?_
      rintro _ _ _ ⟨rfl, rfl, rfl⟩
      simp [h0, h1, hw1, hq, hw2]
      refine hid ⟨q, by omega, swp ts' d q, swpF ts' f' d q, n + 1, by rw [swp_len]; exact hlen, by omega, ?_, hI1.swap hdl hpl, e1, by omega, by omega, by simp [upd_apply, h0], by simp [upd_apply], hS2.trans (swapS_same _ _ _ _ _ _ _ _ _), by rw [swapS_len]; simpa using hsl, rfl⟩
      have := HL2.swap hdl hpl
      simpa [Int.add_assoc] using this
end
end Go.Hb
end

