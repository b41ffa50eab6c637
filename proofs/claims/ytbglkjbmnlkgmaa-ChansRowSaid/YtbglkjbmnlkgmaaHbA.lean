import Derived.WalkKit
import Derived.RangeFuncIn
import Derived.RegionIn
import Derived.KernelRfl
namespace Go.Hb
open Go Go.RowKit

/-- May one append behind a slice? 'full': its capacity is its length; 'tip g e': it is the last version e of the tip g. -/
inductive Right where
  | no | full | tip (g e : Nat)

inductive LV where
  | any
  | bool (b : Bool)
  | int (k : IntKind) (n : Int)
  | str (s : ByteArray)
  | nilp
  | ptr (id off : Nat)
  | eptr (cs : List LV)
  | nils
  | emp (sz : Nat)
  | imm (sz len : Nat) (cs : List LV) (r : Right)
  | ref (sz id off len : Nat) (full : Bool)
  | agg (cs : List LV)
  | tup (vs : List LV)
  | nilf
  | fn (f : Fn) (first captured : List LV)
  | yld (id : Nat)
  | nilm
  | mapr (id : Nat)

instance : Inhabited LV := ⟨.any⟩

structure Tip where
  b : Nat
  stop : Nat
  rem : Nat
  sz : Nat

structure Ctx where
  w : World
  kept : Nat → Prop
  lim : Nat → Nat
  ρ : Nat → Nat
  n : Nat
  τ : List Nat
  θ : Nat → Tip

def RelR (C : Ctx) (A : Option Addr) (len cap m sz : Nat) : Right → Prop
  | .no => True
  | .full => cap = len
  | .tip g e => ∃ e0, C.τ[g]? = some e0 ∧ e ≤ e0 ∧ (e0 = e → ∃ b o, A = some ⟨b, o, none⟩ ∧ C.θ g = ⟨b, o + m, cap - len, sz⟩)

mutual
def RelV (C : Ctx) : LV → Value → Prop
  | .any, _ => True
  | .bool b, v => v = .bool b
  | .int k n, v => v = .int k n
  | .str s, v => v = .string s
  | .nilp, v => v = .pointer none
  | .ptr id off, v => id < C.n ∧ v = .pointer (some ⟨C.ρ id, off, none⟩)
  | .eptr cs, v => ∃ b o, v = .pointer (some ⟨b, o, none⟩) ∧ RelCs C b cs o
  | .nils, v => v = .slice none 0 0
  | .emp _, v => ∃ a cap, v = .slice (some a) 0 cap ∧ cap ≤ maxLen
  | .imm sz len cs r, v => ∃ A cap, v = .slice A len cap ∧ len ≤ cap ∧ cap ≤ maxLen ∧ cs.length = len * sz ∧ (A = none → len = 0 ∧ cap = 0) ∧
      (∀ a, A = some a → a.spot = none) ∧ (∀ b o, A = some ⟨b, o, none⟩ → RelCs C b cs o) ∧ RelR C A len cap cs.length sz r
  | .ref sz id off len full, v => id < C.n ∧ ∃ cap, v = .slice (some ⟨C.ρ id, off, none⟩) len cap ∧ len ≤ cap ∧ cap ≤ maxLen ∧ (full = true → cap = len)
  | .agg cs, v => ∃ vs : Array Value, v = .agg vs ∧ RelVs C cs vs.toList ∧ ∀ u ∈ vs, u.oneCell' = true
  | .tup cs, v => ∃ vs : Array Value, v = .tuple vs ∧ RelVs C cs vs.toList
  | .nilf, v => v = .nilFunc
  | .fn f fa ca, v => ∃ fs cs : Array Value, v = .func f fs cs ∧ RelVs C fa fs.toList ∧ RelVs C ca cs.toList
  | .yld id, v => id < C.n ∧ v = .func (.yield (C.ρ id)) #[] #[]
  | .nilm, v => v = .map none
  | .mapr id, v => id < C.n ∧ v = .map (some (C.ρ id))
def RelVs (C : Ctx) : List LV → List Value → Prop
  | [], vs => vs = []
  | x :: xs, vs => ∃ v r, vs = v :: r ∧ RelV C x v ∧ RelVs C xs r
def RelCs (C : Ctx) (b : Nat) : List LV → Nat → Prop
  | [], _ => True
  | x :: xs, o => (∃ v, C.w.cell? ⟨b, o, none⟩ = some v ∧ o < C.lim b ∧ v.oneCell' = true ∧ RelV C x v) ∧ RelCs C b xs (o + 1)
end

/-- What C reads, C' reads. -/
structure Ctx.wle (C C' : Ctx) : Prop where
  lim : ∀ b, C.lim b ≤ C'.lim b
  cell : ∀ b o, o < C.lim b → C'.w.cell? ⟨b, o, none⟩ = C.w.cell? ⟨b, o, none⟩
  ρ : ∀ i, i < C.n → C'.ρ i = C.ρ i
  n : C.n ≤ C'.n
  τ : ∀ g e, C.τ[g]? = some e → ∃ e', C'.τ[g]? = some e' ∧ e ≤ e' ∧ (e' = e → C'.θ g = C.θ g)

/-- C' comes behind C. -/
structure Ctx.le (C C' : Ctx) : Prop where
  os : C'.w.os = C.w.os
  tape : C'.w.tape = C.w.tape
  output : C'.w.output = C.w.output
  size : C.w.heap.size ≤ C'.w.heap.size
  kept : ∀ b, C.kept b → C'.kept b
  keep : ∀ b, C.kept b → C'.w.heap[b]? = C.w.heap[b]?
  lim : ∀ b, C.lim b ≤ C'.lim b
  cell : ∀ b o, o < C.lim b → C'.w.cell? ⟨b, o, none⟩ = C.w.cell? ⟨b, o, none⟩
  ρ : ∀ i, i < C.n → C'.ρ i = C.ρ i
  n : C.n ≤ C'.n
  τ : ∀ g e, C.τ[g]? = some e → ∃ e', C'.τ[g]? = some e' ∧ e ≤ e' ∧ (e' = e → C'.θ g = C.θ g)

theorem Ctx.le.weak {C C' : Ctx} (h : C.le C') : C.wle C' := ⟨h.lim, h.cell, h.ρ, h.n, h.τ⟩

theorem Ctx.le.refl (C : Ctx) : C.le C :=
  ⟨rfl, rfl, rfl, Nat.le_refl _, fun _ h => h, fun _ _ => rfl, fun _ => Nat.le_refl _, fun _ _ _ => rfl, fun _ _ => rfl, Nat.le_refl _, fun _ e h => ⟨e, h, Nat.le_refl _, fun _ => rfl⟩⟩

theorem Ctx.le.trans {A B C : Ctx} (h : A.le B) (k : B.le C) : A.le C where
  os := k.os.trans h.os
  tape := k.tape.trans h.tape
  output := k.output.trans h.output
  size := Nat.le_trans h.size k.size
  kept b hb := k.kept b (h.kept b hb)
  keep b hb := (k.keep b (h.kept b hb)).trans (h.keep b hb)
  lim b := Nat.le_trans (h.lim b) (k.lim b)
  cell b o ho := (k.cell b o (Nat.lt_of_lt_of_le ho (h.lim b))).trans (h.cell b o ho)
  ρ i hi := (k.ρ i (Nat.lt_of_lt_of_le hi h.n)).trans (h.ρ i hi)
  n := Nat.le_trans h.n k.n
  τ g e he := by
    obtain ⟨e1, h1, h2, h3⟩ := h.τ g e he
    obtain ⟨e2, k1, k2, k3⟩ := k.τ g e1 h1
    refine ⟨e2, k1, Nat.le_trans h2 k2, fun h4 => ?_⟩
    have : e1 = e := by omega
    rw [k3 (by omega), h3 this]

theorem RelR.wmono {C C' : Ctx} (h : C.wle C') {A : Option Addr} {len cap m sz : Nat} {r : Right} (hr : RelR C A len cap m sz r) : RelR C' A len cap m sz r := by
  cases r with
  | no => trivial
  | full => exact hr
  | tip g e =>
    obtain ⟨e0, h1, h2, h3⟩ := hr
    obtain ⟨e1, k1, k2, k3⟩ := h.τ g e0 h1
    refine ⟨e1, k1, Nat.le_trans h2 k2, fun h4 => ?_⟩
    have he : e0 = e := by omega
    obtain ⟨b, o, hA, hθ⟩ := h3 he
    exact ⟨b, o, hA, by rw [k3 (by omega), hθ]⟩

mutual
theorem RelV.wmono {C C' : Ctx} (h : C.wle C') : (x : LV) → (v : Value) → RelV C x v → RelV C' x v
  | .any, _, _ => by simp [RelV]
  | .bool _, _, e => by simpa [RelV] using e
  | .int _ _, _, e => by simpa [RelV] using e
  | .str _, _, e => by simpa [RelV] using e
  | .nilp, _, e => by simpa [RelV] using e
  | .ptr id off, v, e => by
    simp only [RelV] at e ⊢
    exact ⟨Nat.lt_of_lt_of_le e.1 h.n, by rw [h.ρ _ e.1]; exact e.2⟩
  | .eptr cs, v, e => by
    simp only [RelV] at e ⊢
    obtain ⟨b, o, e1, e2⟩ := e
    exact ⟨b, o, e1, RelCs.wmono h b cs o e2⟩
  | .nils, _, e => by simpa [RelV] using e
  | .emp _, _, e => by simpa [RelV] using e
  | .imm sz len cs r, v, e => by
    simp only [RelV] at e ⊢
    obtain ⟨A, cap, e1, e2, e3, e4, e5, e6, e7, e8⟩ := e
    exact ⟨A, cap, e1, e2, e3, e4, e5, e6, fun b o hA => RelCs.wmono h b cs o (e7 b o hA), RelR.wmono h e8⟩
  | .ref sz id off len full, v, e => by
    simp only [RelV] at e ⊢
    exact ⟨Nat.lt_of_lt_of_le e.1 h.n, by rw [h.ρ _ e.1]; exact e.2⟩
  | .agg cs, v, e => by
    simp only [RelV] at e ⊢
    obtain ⟨vs, e1, e2, e3⟩ := e
    exact ⟨vs, e1, RelVs.wmono h cs _ e2, e3⟩
  | .tup cs, v, e => by
    simp only [RelV] at e ⊢
    obtain ⟨vs, e1, e2⟩ := e
    exact ⟨vs, e1, RelVs.wmono h cs _ e2⟩
  | .nilf, _, e => by simpa [RelV] using e
  | .fn f fa ca, v, e => by
    simp only [RelV] at e ⊢
    obtain ⟨fs, cs, e1, e2, e3⟩ := e
    exact ⟨fs, cs, e1, RelVs.wmono h fa _ e2, RelVs.wmono h ca _ e3⟩
  | .yld id, v, e => by
    simp only [RelV] at e ⊢
    exact ⟨Nat.lt_of_lt_of_le e.1 h.n, by rw [h.ρ _ e.1]; exact e.2⟩
  | .nilm, _, e => by simpa [RelV] using e
  | .mapr id, v, e => by
    simp only [RelV] at e ⊢
    exact ⟨Nat.lt_of_lt_of_le e.1 h.n, by rw [h.ρ _ e.1]; exact e.2⟩
theorem RelVs.wmono {C C' : Ctx} (h : C.wle C') : (xs : List LV) → (vs : List Value) → RelVs C xs vs → RelVs C' xs vs
  | [], _, e => by simpa [RelVs] using e
  | x :: xs, vs, e => by
    simp only [RelVs] at e ⊢
    obtain ⟨v, r, e1, e2, e3⟩ := e
    exact ⟨v, r, e1, RelV.wmono h x v e2, RelVs.wmono h xs r e3⟩
theorem RelCs.wmono {C C' : Ctx} (h : C.wle C') (b : Nat) : (xs : List LV) → (o : Nat) → RelCs C b xs o → RelCs C' b xs o
  | [], _, _ => by simp [RelCs]
  | x :: xs, o, e => by
    simp only [RelCs] at e ⊢
    obtain ⟨⟨v, e1, e2, e3, e4⟩, e5⟩ := e
    exact ⟨⟨v, by rw [h.cell b o e2]; exact e1, Nat.lt_of_lt_of_le e2 (h.lim b), e3, RelV.wmono h x v e4⟩, RelCs.wmono h b xs (o + 1) e5⟩
end

theorem RelV.mono {C C' : Ctx} (h : C.le C') (x : LV) (v : Value) (r : RelV C x v) : RelV C' x v := RelV.wmono h.weak x v r
theorem RelVs.mono {C C' : Ctx} (h : C.le C') (xs : List LV) (vs : List Value) (r : RelVs C xs vs) : RelVs C' xs vs := RelVs.wmono h.weak xs vs r
theorem RelCs.mono {C C' : Ctx} (h : C.le C') (b : Nat) (xs : List LV) (o : Nat) (r : RelCs C b xs o) : RelCs C' b xs o := RelCs.wmono h.weak b xs o r
end Go.Hb
