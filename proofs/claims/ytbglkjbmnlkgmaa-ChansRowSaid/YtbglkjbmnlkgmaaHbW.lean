import Derived.Test.YtbglkjbmnlkgmaaHbV
namespace Go.Hb
open Go Go.RowKit

mutual
def LV.under (n : Nat) : LV → Bool
  | .ptr id _ => decide (id < n)
  | .eptr cs => undersB n cs
  | .imm _ _ cs _ => undersB n cs
  | .ref _ id _ _ _ => decide (id < n)
  | .agg cs => undersB n cs
  | .tup cs => undersB n cs
  | .fn _ a b => undersB n a && undersB n b
  | .yld id => decide (id < n)
  | .mapr id => decide (id < n)
  | _ => true
def undersB (n : Nat) : List LV → Bool
  | [] => true
  | x :: xs => x.under n && undersB n xs
end

def AObj.under (n : Nat) : AObj → Prop
  | .cells cs => undersB n cs = true
  | .loop r => ∀ i, (r.tmps i).under n = true

mutual
theorem RelV.under {C : Ctx} : (x : LV) → (v : Value) → RelV C x v → x.under C.n = true
  | .any, _, _ => by simp [LV.under]
  | .bool _, _, _ => by simp [LV.under]
  | .int _ _, _, _ => by simp [LV.under]
  | .str _, _, _ => by simp [LV.under]
  | .nilp, _, _ => by simp [LV.under]
  | .ptr id off, v, e => by simp only [RelV] at e; simp [LV.under, e.1]
  | .eptr cs, v, e => by
    simp only [RelV] at e
    obtain ⟨b, o, _, e⟩ := e
    simp only [LV.under]; exact RelCs.under b cs o e
  | .nils, _, _ => by simp [LV.under]
  | .emp _, _, _ => by simp [LV.under]
  | .imm sz len cs r, v, e => by
    simp only [RelV] at e
    obtain ⟨A, cap, _, _, _, h3, h4, h5, h6, _⟩ := e
    simp only [LV.under]
    cases A with
    | none =>
      have : cs = [] := List.eq_nil_of_length_eq_zero (by rw [h3, (h4 rfl).1]; simp)
      subst this; simp [undersB]
    | some a =>
      obtain ⟨b, o, sp⟩ := a
      have := h5 _ rfl; simp at this; subst this
      exact RelCs.under b cs o (h6 b o rfl)
  | .ref sz id off len full, v, e => by simp only [RelV] at e; simp [LV.under, e.1]
  | .agg cs, v, e => by
    simp only [RelV] at e
    obtain ⟨vs, _, e, _⟩ := e
    simp only [LV.under]; exact RelVs.under cs _ e
  | .tup cs, v, e => by
    simp only [RelV] at e
    obtain ⟨vs, _, e⟩ := e
    simp only [LV.under]; exact RelVs.under cs _ e
  | .nilf, _, _ => by simp [LV.under]
  | .fn f a b, v, e => by
    simp only [RelV] at e
    obtain ⟨fs, cs, _, e1, e2⟩ := e
    simp only [LV.under, Bool.and_eq_true]; exact ⟨RelVs.under a _ e1, RelVs.under b _ e2⟩
  | .yld id, v, e => by simp only [RelV] at e; simp [LV.under, e.1]
  | .nilm, _, _ => by simp [LV.under]
  | .mapr id, v, e => by simp only [RelV] at e; simp [LV.under, e.1]
theorem RelVs.under {C : Ctx} : (xs : List LV) → (vs : List Value) → RelVs C xs vs → undersB C.n xs = true
  | [], _, _ => by simp [undersB]
  | x :: xs, vs, e => by
    simp only [RelVs] at e
    obtain ⟨v, r, _, e2, e3⟩ := e
    simp only [undersB, Bool.and_eq_true]; exact ⟨RelV.under x v e2, RelVs.under xs r e3⟩
theorem RelCs.under {C : Ctx} (b : Nat) : (xs : List LV) → (o : Nat) → RelCs C b xs o → undersB C.n xs = true
  | [], _, _ => by simp [undersB]
  | x :: xs, o, e => by
    simp only [RelCs] at e
    obtain ⟨⟨v, _, _, _, e4⟩, e5⟩ := e
    simp only [undersB, Bool.and_eq_true]; exact ⟨RelV.under x v e4, RelCs.under b xs (o + 1) e5⟩
end

def Ctx.cut (C : Ctx) (n : Nat) : Ctx := { C with n := n }

mutual
theorem RelV.cut {C : Ctx} {n : Nat} : (x : LV) → (v : Value) → x.under n = true → RelV C x v → RelV (C.cut n) x v
  | .any, _, _, _ => by simp [RelV]
  | .bool _, _, _, e => by simpa [RelV] using e
  | .int _ _, _, _, e => by simpa [RelV] using e
  | .str _, _, _, e => by simpa [RelV] using e
  | .nilp, _, _, e => by simpa [RelV] using e
  | .ptr id off, v, u, e => by simp only [RelV] at e ⊢; simp [LV.under] at u; exact ⟨u, e.2⟩
  | .eptr cs, v, u, e => by
    simp only [RelV] at e ⊢
    simp only [LV.under] at u
    obtain ⟨b, o, e1, e2⟩ := e
    exact ⟨b, o, e1, RelCs.cut b cs o u e2⟩
  | .nils, _, _, e => by simpa [RelV] using e
  | .emp _, _, _, e => by simpa [RelV] using e
  | .imm sz len cs r, v, u, e => by
    simp only [RelV] at e ⊢
    simp only [LV.under] at u
    obtain ⟨A, cap, e1, e2, e3, e4, e5, e6, e7, e8⟩ := e
    exact ⟨A, cap, e1, e2, e3, e4, e5, e6, fun b o hA => RelCs.cut b cs o u (e7 b o hA), e8⟩
  | .ref sz id off len full, v, u, e => by simp only [RelV] at e ⊢; simp [LV.under] at u; exact ⟨u, e.2⟩
  | .agg cs, v, u, e => by
    simp only [RelV] at e ⊢
    simp only [LV.under] at u
    obtain ⟨vs, e1, e2, e3⟩ := e
    exact ⟨vs, e1, RelVs.cut cs _ u e2, e3⟩
  | .tup cs, v, u, e => by
    simp only [RelV] at e ⊢
    simp only [LV.under] at u
    obtain ⟨vs, e1, e2⟩ := e
    exact ⟨vs, e1, RelVs.cut cs _ u e2⟩
  | .nilf, _, _, e => by simpa [RelV] using e
  | .fn f a b, v, u, e => by
    simp only [RelV] at e ⊢
    simp only [LV.under, Bool.and_eq_true] at u
    obtain ⟨fs, cs, e1, e2, e3⟩ := e
    exact ⟨fs, cs, e1, RelVs.cut a _ u.1 e2, RelVs.cut b _ u.2 e3⟩
  | .yld id, v, u, e => by simp only [RelV] at e ⊢; simp [LV.under] at u; exact ⟨u, e.2⟩
  | .nilm, _, _, e => by simpa [RelV] using e
  | .mapr id, v, u, e => by simp only [RelV] at e ⊢; simp [LV.under] at u; exact ⟨u, e.2⟩
theorem RelVs.cut {C : Ctx} {n : Nat} : (xs : List LV) → (vs : List Value) → undersB n xs = true → RelVs C xs vs → RelVs (C.cut n) xs vs
  | [], _, _, e => by simpa [RelVs] using e
  | x :: xs, vs, u, e => by
    simp only [RelVs] at e ⊢
    simp only [undersB, Bool.and_eq_true] at u
    obtain ⟨v, r, e1, e2, e3⟩ := e
    exact ⟨v, r, e1, RelV.cut x v u.1 e2, RelVs.cut xs r u.2 e3⟩
theorem RelCs.cut {C : Ctx} {n : Nat} (b : Nat) : (xs : List LV) → (o : Nat) → undersB n xs = true → RelCs C b xs o → RelCs (C.cut n) b xs o
  | [], _, _, _ => by simp [RelCs]
  | x :: xs, o, u, e => by
    simp only [RelCs] at e ⊢
    simp only [undersB, Bool.and_eq_true] at u
    obtain ⟨⟨v, e1, e2, e3, e4⟩, e5⟩ := e
    exact ⟨⟨v, e1, e2, e3, RelV.cut x v u.1 e4⟩, RelCs.cut b xs (o + 1) u.2 e5⟩
end

theorem RelO.cut {C : Ctx} {n : Nat} {o : AObj} {b : Nat} (u : o.under n) (r : RelO C o b) : RelO (C.cut n) o b := by
  cases o with
  | cells cs =>
    obtain ⟨vs, T, us, ws, h1, h2, h3, h4⟩ := r
    exact ⟨vs, T, us, ws, h1, h2, RelVs.cut _ _ u h3, h4⟩
  | loop r' =>
    obtain ⟨L, h1, h2, h3, h4, h5, h6, h7, h8⟩ := r
    exact ⟨L, h1, h2, h3, h4, h5, h6, h7, fun i => RelV.cut _ _ (u i) (h8 i)⟩

theorem RelO.under {C : Ctx} {o : AObj} {b : Nat} (r : RelO C o b) : o.under C.n := by
  cases o with
  | cells cs =>
    obtain ⟨vs, T, us, ws, h1, h2, h3, h4⟩ := r
    exact RelVs.under _ _ h3
  | loop r' =>
    obtain ⟨L, h1, h2, h3, h4, h5, h6, h7, h8⟩ := r
    exact fun i => RelV.under _ _ (h8 i)

/-- What the call made for itself is forgotten. -/
theorem aCalls_drop {P : Program} {f : FuncId} {args : List LV} {s : List AObj} {v : List Nat} {R : LV → List AObj → List Nat → Prop}
    (h : aCalls P f args s v fun x s' v' => ∃ s1 J, s' = s1 ++ J ∧ s1.length = s.length ∧ x.under s.length = true ∧ (∀ (i : Nat) (o : AObj), s1[i]? = some o → s[i]? = some o ∨ o.under s.length) ∧ R x s1 v') : aCalls P f args s v R := by
  refine ⟨h.1, fun C vs h1 h2 h3 => (h.2 C vs h1 h2 h3).mono ?_⟩
  rintro e w' ⟨C', x, u, s', v', rfl, rfl, k3, k4, k5, k6, s1, J, rfl, k7, k8, k9, k10⟩
  have hn : C.n = s.length := h1.n
  have hn' : C'.n = (s1 ++ J).length := k4.n
  have hlt : s.length ≤ C'.n := by rw [hn', List.length_append]; omega
  refine ⟨C'.cut s.length, x, u, s1, v', rfl, rfl, ⟨k3.os, k3.tape, k3.output, k3.size, k3.kept, k3.keep, k3.lim, k3.cell, k3.ρ, by simp [Ctx.cut, hn], k3.τ⟩, ?_, k5, RelV.cut x u k8 k6, k10⟩
  refine ⟨by simp [Ctx.cut, k7], fun i o ho => ?_, fun i j hi hj => k4.inj i j (Nat.lt_of_lt_of_le hi hlt) (Nat.lt_of_lt_of_le hj hlt), fun i hi => by
    obtain ⟨a, b, c⟩ := k4.own i (Nat.lt_of_lt_of_le hi hlt)
    refine ⟨a, b.imp (fun hb => ?_) id, c⟩
    rw [List.getElem?_append_left (by rw [k7]; exact hi)] at hb; exact hb, k4.tip, k4.tipinj, fun g i hg hi => k4.tipown g i hg (Nat.lt_of_lt_of_le hi hlt), k4.kept, k4.lim⟩
  have hi : i < s1.length := (List.getElem?_eq_some_iff.1 ho).1
  have hr := k4.obj i o (by rw [List.getElem?_append_left hi]; exact ho)
  rcases k9 i o ho with h' | h'
  · have := RelO.under (h1.obj i o h')
    rw [hn] at this
    exact RelO.cut this hr
  · exact RelO.cut h' hr

/-! ### lists of objects -/
theorem get_app (s l : List AObj) (k : Nat) : (s ++ l)[s.length + k]? = l[k]? := by
  rw [List.getElem?_append_right (by omega)]; congr 1; omega
theorem get_app0 (s l : List AObj) : (s ++ l)[s.length]? = l[0]? := get_app s l 0
theorem get_old {s l : List AObj} {k : Nat} (h : k < s.length) : (s ++ l)[k]? = s[k]? := List.getElem?_append_left h
theorem set_app (s l : List AObj) (k : Nat) (o : AObj) : (s ++ l).set (s.length + k) o = s ++ l.set k o := by
  rw [List.set_append_right _ _ (by omega)]; congr 2; omega
theorem set_app0 (s l : List AObj) (o : AObj) : (s ++ l).set s.length o = s ++ l.set 0 o := set_app s l 0 o
theorem set_old {s l : List AObj} {k : Nat} (h : k < s.length) (o : AObj) : (s ++ l).set k o = s.set k o ++ l := by
  rw [List.set_append_left _ _ h]
end Go.Hb
