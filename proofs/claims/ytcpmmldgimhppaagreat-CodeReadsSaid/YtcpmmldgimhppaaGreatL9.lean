/-
  A layer for reasoning about the program's calls, and contracts of its functions (L9). CONDITIONS: none; each theorem bears its own.
-/
import Derived.Test.YtcpmmldgimhppaaGreatL8
set_option linter.unusedVariables false
set_option linter.unusedSimpArgs false
section
namespace Go.Hb
open Go
/-! what a clone hands on, among the objects J that lie from b on -/
def NilRow (sz : Nat) (x : LV) : Prop := x = .nils ∨ x = .imm sz 0 [] .full
theorem NilRow.cells {sz : Nat} {x : LV} (h : NilRow sz x) : x.cells = [x] ∧ x.cellsOk = true := by rcases h with rfl | rfl <;> exact ⟨rfl, rfl⟩
def CloneO {α : Type} [Enc α] (b : Nat) (J : List AObj) (l : List α) (x : LV) : Prop := (l = [] ∧ NilRow (Enc.sz α) x) ∨ (l ≠ [] ∧ ∃ d, x = .ref (Enc.sz α) (b + d) 0 l.length false ∧ J[d]? = some (.cells (rowCs l)))
theorem getElem?_app {α : Type} {J J' : List α} {d : Nat} {o : α} (h : J[d]? = some o) : (J ++ J')[d]? = some o := by
  rw [List.getElem?_append_left (List.getElem?_eq_some_iff.1 h).1]; exact h
section
variable {α : Type} [Enc α]
theorem CloneO.app {b : Nat} {J J' : List AObj} {l : List α} {x : LV} (h : CloneO b J l x) : CloneO b (J ++ J') l x := by
  rcases h with h | ⟨h1, d, h2, h3⟩
  · exact .inl h
  · exact .inr ⟨h1, d, h2, getElem?_app h3⟩
theorem CloneO.cells {b : Nat} {J : List AObj} {l : List α} {x : LV} (h : CloneO b J l x) : x.cells = [x] ∧ x.cellsOk = true := by
  rcases h with ⟨_, h⟩ | ⟨_, d, rfl, _⟩
  · exact h.cells
  · exact ⟨rfl, rfl⟩
theorem CloneO.len {P : Program} {t : TypeId} (ht : isSl P t = true) {b : Nat} {J : List AObj} {l : List α} {x : LV} (h : CloneO b J l x) : aLen P t x = some (.int .i64 l.length) := by
  obtain ⟨e, ht⟩ : ∃ e, P.underlying t = some (.slice e) := by
    unfold isSl at ht
    split at ht
    · exact ⟨_, by assumption⟩
    · cases ht
  rcases h with ⟨rfl, rfl | rfl⟩ | ⟨_, d, rfl, _⟩ <;> simp [aLen, ht]
/-- a clone is called where J lies behind b objects -/
theorem callK {P : Program} {f : FuncId} {args : List LV} {s : List AObj} {v : List Nat} {l : List α} {K : LV → List AObj → List Nat → Prop} (h : aCalls P f args s v (CloneR l s v))
    (k : ∀ x J, (x.cells = [x] ∧ x.cellsOk = true) → (∀ (S0 J0 : List AObj), s = S0 ++ J0 → CloneO S0.length (J0 ++ J) l x) → K x (s ++ J) v) : aCalls P f args s v K := by
  refine aCalls_mono h ?_
  rintro x s' v' ⟨rfl, ⟨h1, rfl, h2⟩ | ⟨h1, rfl, rfl⟩⟩
  · have := k x [] (NilRow.cells h2) (fun S0 J0 _ => .inl ⟨h1, h2⟩)
    simpa using this
  · refine k _ _ ⟨rfl, rfl⟩ fun S0 J0 e => .inr ⟨h1, J0.length, ?_, by simp⟩
    subst e; simp
end
/-- a row of so many elements that lies there -/
def ShapeO (sz b : Nat) (J : List AObj) (n : Nat) (x : LV) : Prop := (n = 0 ∧ NilRow sz x) ∨ (n ≠ 0 ∧ ∃ d cs, x = .ref sz (b + d) 0 n false ∧ J[d]? = some (.cells cs) ∧ cs.length = n * sz)
theorem CloneO.shape {α : Type} [Enc α] {b : Nat} {J : List AObj} {l : List α} {x : LV} (h : CloneO b J l x) : ShapeO (Enc.sz α) b J l.length x := by
  rcases h with ⟨rfl, h⟩ | ⟨h1, d, h2, h3⟩
  · exact .inl ⟨rfl, h⟩
  · exact .inr ⟨fun e => h1 (List.length_eq_zero_iff.1 e), d, _, h2, h3, rowCs_len l⟩
theorem ShapeO.len {P : Program} {t : TypeId} (ht : isSl P t = true) {sz b n : Nat} {J : List AObj} {x : LV} (h : ShapeO sz b J n x) : aLen P t x = some (.int .i64 n) := by
  obtain ⟨e, ht⟩ : ∃ e, P.underlying t = some (.slice e) := by
    unfold isSl at ht
    split at ht
    · exact ⟨_, by assumption⟩
    · cases ht
  rcases h with ⟨rfl, rfl | rfl⟩ | ⟨_, d, cs, rfl, _⟩ <;> simp [aLen, ht]
theorem ShapeO.put {sz b n : Nat} {J : List AObj} {x : LV} {d : Nat} {cs cs' : List LV} (h : ShapeO sz b J n x) (hd : J[d]? = some (.cells cs)) (hl : cs'.length = cs.length) : ShapeO sz b (J.set d (.cells cs')) n x := by
  rcases h with h | ⟨h1, e, cs2, h2, h3, h4⟩
  · exact .inl h
  · by_cases he : d = e
    · subst he
      rw [hd] at h3; cases h3
      exact .inr ⟨h1, d, cs', h2, by simp [(List.getElem?_eq_some_iff.1 hd).1], by omega⟩
    · exact .inr ⟨h1, e, cs2, h2, by rw [List.getElem?_set_ne he]; exact h3, h4⟩
end Go.Hb
namespace Go.Hb
theorem callK1 {α : Type} [Enc α] {P : Program} {f : FuncId} {args : List LV} {s : List AObj} {v : List Nat} {l : List α} {K : LV → List AObj → List Nat → Prop} (h : aCalls P f args s v (CloneR l s v)) (hne : l ≠ [])
    (k : K (.ref (Enc.sz α) s.length 0 l.length false) (s ++ [.cells (rowCs l)]) v) : aCalls P f args s v K := by
  refine aCalls_mono h ?_
  rintro x s' v' ⟨rfl, ⟨h1, _⟩ | ⟨h1, rfl, rfl⟩⟩
  · exact absurd h1 hne
  · exact k
theorem callK0 {α : Type} [Enc α] {P : Program} {f : FuncId} {args : List LV} {s : List AObj} {v : List Nat} {l : List α} {K : LV → List AObj → List Nat → Prop} (h : aCalls P f args s v (CloneR l s v)) (he : l = [])
    (k : ∀ x, (x.cells = [x] ∧ x.cellsOk = true) → NilRow (Enc.sz α) x → K x s v) : aCalls P f args s v K := by
  refine aCalls_mono h ?_
  rintro x s' v' ⟨rfl, ⟨h1, rfl, h2⟩ | ⟨h1, rfl, rfl⟩⟩
  · exact k x (NilRow.cells h2) h2
  · exact absurd he h1
theorem NilRow.len {P : Program} {t : TypeId} (ht : isSl P t = true) {sz : Nat} {x : LV} (h : NilRow sz x) : aLen P t x = some (.int .i64 0) := by
  obtain ⟨e, ht⟩ : ∃ e, P.underlying t = some (.slice e) := by
    unfold isSl at ht
    split at ht
    · exact ⟨_, by assumption⟩
    · cases ht
  rcases h with rfl | rfl <;> simp [aLen, ht]
theorem NilRow.weak {α : Type} [Enc α] {x : LV} (h : NilRow (Enc.sz α) x) : Weak x (row ([] : List α)) := by
  rcases h with rfl | rfl
  · exact Weak.nilrow
  · exact Weak.row (Weaks.refl _) rfl
theorem NilRow.under {sz n : Nat} {x : LV} (h : NilRow sz x) : x.under n = true := by rcases h with rfl | rfl <;> rfl
end Go.Hb
end

section
namespace Go.Hb
open Go
/-! bytes that are read -/
/-- A short number at the beginning of bytes, of which i, and v, were read: its value, how many bytes it has, the error. -/
def scan : List UInt8 → Nat → Nat → Nat × Nat × Int
  | [], i, _ => if 9 ≤ i then (0, 0, 3) else (0, 0, 2)
  | c :: l, i, v => if 9 ≤ i then (0, 0, 3) else if 128 ≤ c.toNat then scan l (i + 1) (v + c.toNat % 128 * 128 ^ i) else if c.toNat = 0 ∧ 0 < i then (0, 0, 3) else (v + c.toNat % 128 * 128 ^ i, i + 1, 0)
theorem scan_err {l : List UInt8} : ∀ {i v : Nat}, (scan l i v).2.2 = 0 ∨ (((scan l i v).2.2 = 2 ∨ (scan l i v).2.2 = 3) ∧ (scan l i v).1 = 0 ∧ (scan l i v).2.1 = 0) := by
  induction l with
  | nil => intro i v; simp only [scan]; split <;> simp
  | cons c l ih =>
    intro i v; simp only [scan]
    split
    · simp
    · split
      · exact ih
      · split <;> simp
theorem pow128 (i : Nat) : (0 : Nat) < 128 ^ i := Nat.pow_pos (by omega)
theorem scan_lt {l : List UInt8} : ∀ {i v : Nat}, i ≤ 9 → v < 128 ^ i → (scan l i v).1 < 128 ^ 9 := by
  induction l with
  | nil => intro i v hi hv; simp only [scan]; split <;> simp
  | cons c l ih =>
    intro i v hi hv; simp only [scan]
    split
    · simp
    · rename_i h9
      have hc : c.toNat % 128 < 128 := Nat.mod_lt _ (by omega)
      have hb : v + c.toNat % 128 * 128 ^ i < 128 ^ (i + 1) := by
        have := Nat.mul_le_mul_right (128 ^ i) (show c.toNat % 128 ≤ 127 by omega)
        rw [Nat.pow_succ]; omega
      split
      · exact ih (by omega) hb
      · split
        · simp
        · exact Nat.lt_of_lt_of_le hb (Nat.pow_le_pow_right (by omega) (by omega))
/-- How many bytes it has: no more than there are. -/
theorem scan_len {l : List UInt8} : ∀ {i v : Nat}, (scan l i v).2.2 = 0 → i < (scan l i v).2.1 ∧ (scan l i v).2.1 ≤ i + l.length ∧ (scan l i v).2.1 ≤ 9 := by
  induction l with
  | nil => intro i v h; simp only [scan] at h; split at h <;> simp at h
  | cons c l ih =>
    intro i v h; simp only [scan] at h ⊢
    split
    · rename_i h9; simp [h9] at h
    · rename_i h9
      split
      · rename_i h1
        rw [if_neg h9, if_pos h1] at h
        have := ih h
        simp only [List.length_cons]; omega
      · rename_i h1
        split
        · rename_i h2; rw [if_neg h9, if_neg h1, if_pos h2] at h; simp at h
        · simp; omega
/-- What was written is read. -/
theorem scan_short : ∀ (n : Nat) (r : List UInt8) (i v : Nat), i + (shortN n).length ≤ 9 → (0 < i → n ≠ 0) → scan (shortN n ++ r) i v = (v + n * 128 ^ i, i + (shortN n).length, 0) := by
  intro n
  induction n using Nat.strongRecOn with
  | ind n ih =>
    intro r i v h9 h0
    rw [shortN] at h9 ⊢
    by_cases h : n < 128
    · simp only [h, dite_true, List.cons_append, List.nil_append, List.length_cons, List.length_nil] at h9 ⊢
      have e : (UInt8.ofNat n).toNat = n := by simp; omega
      simp only [scan]
      rw [if_neg (by omega), e, if_neg (by omega), if_neg (by rintro ⟨h1, h2⟩; exact h0 h2 h1), Nat.mod_eq_of_lt h]
    · simp only [h, dite_false, List.cons_append, List.length_cons] at h9 ⊢
      have e : (UInt8.ofNat (128 + n % 128)).toNat = 128 + n % 128 := by simp; omega
      simp only [scan]
      rw [if_neg (by omega), e, if_pos (by omega), ih (n / 128) (by omega) r (i + 1) _ (by omega) (by intro _; omega)]
      congr 1
      · have : (128 + n % 128) % 128 = n % 128 := by omega
        rw [this, Nat.pow_succ, Nat.add_assoc]
        congr 1
        have h2 : n = n % 128 + 128 * (n / 128) := by omega
        conv => rhs; rw [h2]
        rw [Nat.add_mul, Nat.mul_comm 128 (n / 128), Nat.mul_assoc, Nat.mul_comm (128 ^ i) 128]
      · congr 1; omega
/-- What is read was written so. -/
theorem short_scan : ∀ (l : List UInt8) (i v x k : Nat), scan l i v = (x, k, 0) → ∃ n, x = v + n * 128 ^ i ∧ (shortN n).length = k - i ∧ l.take (k - i) = shortN n ∧ i < k ∧ (0 < i → n ≠ 0)
  | [], i, v, x, k, h => by simp only [scan] at h; split at h <;> simp at h
  | c :: l, i, v, x, k, h => by
    have hc := c.toNat_lt
    simp only [scan] at h
    split at h
    · simp at h
    · rename_i h9
      split at h
      · rename_i h1
        obtain ⟨n, e1, e2, e3, e4, e5⟩ := short_scan l (i + 1) _ x k h
        have hn : n ≠ 0 := e5 (by omega)
        refine ⟨c.toNat % 128 + 128 * n, ?_, ?_, ?_, by omega, fun _ => by omega⟩
        · rw [e1, Nat.pow_succ, Nat.add_mul, Nat.add_assoc]; congr 2
          rw [Nat.mul_comm 128 n, Nat.mul_assoc, Nat.mul_comm (128 ^ i) 128]
        · rw [shortN, dif_neg (by omega)]
          have : (c.toNat % 128 + 128 * n) / 128 = n := by omega
          rw [this, List.length_cons, e2]; omega
        · rw [shortN, dif_neg (by omega)]
          have : (c.toNat % 128 + 128 * n) / 128 = n := by omega
          rw [this, ← e3]
          have e : k - i = (k - (i + 1)) + 1 := by omega
          rw [e, List.take_succ_cons]
          congr 1
          apply UInt8.toNat_inj.1
          simp; omega
      · rename_i h1
        split at h
        · simp at h
        · rename_i h2
          simp only [Prod.mk.injEq] at h
          obtain ⟨rfl, rfl, _⟩ := h
          refine ⟨c.toNat, ?_, ?_, ?_, by omega, fun h3 h4 => h2 ⟨h4, h3⟩⟩
          · rw [Nat.mod_eq_of_lt (by omega)]
          · rw [shortN, dif_pos (by omega)]; simp
          · rw [shortN, dif_pos (by omega)]
            have : i + 1 - i = 1 := by omega
            rw [this]; simp
end Go.Hb
end

section
namespace Go.Hb
open Go
open Go
/-! readers: the place, the error -/
structure RS where
  at_ : Nat
  e : Int
def rdO (b : List UInt8) (r : RS) : List LV := [row b, .int .i64 r.at_, .int .i64 r.e]
def sc (b : List UInt8) (r : RS) : Nat × Nat × Int := scan (b.drop r.at_) 0 0
def rdShort (b : List UInt8) (r : RS) : RS × Int :=
  if r.e ≠ 0 then (r, 0) else if (sc b r).2.2 ≠ 0 then (⟨r.at_, (sc b r).2.2⟩, 0) else (⟨r.at_ + (sc b r).2.1, 0⟩, (sc b r).1)
def rdSigned (b : List UInt8) (r : RS) : RS × Int :=
  if r.e ≠ 0 then (r, 0) else if (sc b r).2.2 ≠ 0 then (⟨r.at_, (sc b r).2.2⟩, 0) else if 2305843009213693952 ≤ (sc b r).1 / 2 then (⟨r.at_, 3⟩, 0)
  else (⟨r.at_ + (sc b r).2.1, 0⟩, if (sc b r).1 % 2 = 1 then -1 - (((sc b r).1 / 2 : Nat) : Int) else (((sc b r).1 / 2 : Nat) : Int))
def rdList (b : List UInt8) (most : Nat) (r : RS) : RS × Nat :=
  if r.e ≠ 0 then (r, 0) else if (sc b r).2.2 ≠ 0 then (⟨r.at_, (sc b r).2.2⟩, 0) else if most < (sc b r).1 then (⟨r.at_, 3⟩, 0)
  else if b.length < r.at_ + (sc b r).2.1 + (sc b r).1 then (⟨r.at_, 2⟩, 0) else (⟨r.at_ + (sc b r).2.1, 0⟩, (sc b r).1)
def rdByte (b : List UInt8) (r : RS) : RS × Nat :=
  if r.e ≠ 0 then (r, 0) else if r.at_ < b.length then (⟨r.at_ + 1, 0⟩, (nth b r.at_).toNat) else (⟨r.at_, 2⟩, 0)
def rdMany {α : Type} (f : RS → RS × α) : Nat → RS → RS × List α
  | 0, r => (r, [])
  | n + 1, r => ((f (rdMany f n r).1).1, (rdMany f n r).2 ++ [(f (rdMany f n r).1).2])
theorem rdMany_len {α : Type} (f : RS → RS × α) : ∀ (n : Nat) (r : RS), (rdMany f n r).2.length = n
  | 0, _ => rfl
  | n + 1, r => by simp [rdMany, rdMany_len f n r]
def rdNums (b : List UInt8) (r : RS) : RS × List Int := rdMany (rdShort b) (rdList b 8 r).2 (rdList b 8 r).1
def rdIns (b : List UInt8) (r : RS) : RS × Ins := ((rdSigned b (rdByte b r).1).1, ⟨(rdByte b r).2, (rdSigned b (rdByte b r).1).2⟩)
def rdFn (b : List UInt8) (r : RS) : RS × Fn_ :=
  let x := rdShort b r
  let n := rdList b 64 x.1
  let c := rdMany (rdIns b) n.2 n.1
  (c.1, ⟨x.2, c.2⟩)
def rdFuncs (b : List UInt8) (r : RS) : RS × List Fn_ := rdMany (rdFn b) (rdList b 16 r).2 (rdList b 16 r).1
def rdChoices (b : List UInt8) (r : RS) : RS × List (List Int) := rdMany (rdNums b) (rdList b 8 r).2 (rdList b 8 r).1
def rdProg (b : List UInt8) (r : RS) : RS × Prog :=
  let fs := rdFuncs b r
  let mu := rdShort b fs.1
  let co := rdNums b mu.1
  let se := rdNums b co.1
  let ch := rdNums b se.1
  let cho := rdChoices b ch.1
  let th := rdShort b cho.1
  (th.1, ⟨fs.2, mu.2, co.2, se.2, ch.2, cho.2, th.2⟩)
def noProg : Prog := ⟨[], 0, [], [], [], [], 0⟩
/-- The program of bytes, the error. -/
def readP (b : List UInt8) : Prog × Int :=
  let x := rdProg b ⟨0, 0⟩
  if x.1.e ≠ 0 then (noProg, x.1.e) else if x.1.at_ < b.length then (noProg, 3) else if mayP x.2 = true then (x.2, 0) else (noProg, 1)

/-! bounds -/
def ROk (b : List UInt8) (r : RS) : Prop := r.at_ ≤ b.length ∧ 0 ≤ r.e ∧ r.e ≤ 3
theorem sc_len {b : List UInt8} {r : RS} (h : ROk b r) (h0 : (sc b r).2.2 = 0) : 0 < (sc b r).2.1 ∧ r.at_ + (sc b r).2.1 ≤ b.length := by
  have := scan_len (l := b.drop r.at_) (i := 0) (v := 0) h0
  rw [List.length_drop] at this
  have h1 := h.1
  unfold sc at *; omega
theorem sc_err {b : List UInt8} {r : RS} : (sc b r).2.2 = 0 ∨ (((sc b r).2.2 = 2 ∨ (sc b r).2.2 = 3) ∧ (sc b r).1 = 0 ∧ (sc b r).2.1 = 0) := scan_err
theorem sc_lt {b : List UInt8} {r : RS} : (sc b r).1 < 9223372036854775808 := by
  have := scan_lt (l := b.drop r.at_) (i := 0) (v := 0) (by omega) (by simp)
  have e : (128 : Nat) ^ 9 = 9223372036854775808 := by decide
  unfold sc; omega
theorem rdShort_ok {b : List UInt8} {r : RS} (h : ROk b r) : ROk b (rdShort b r).1 ∧ 0 ≤ (rdShort b r).2 ∧ (rdShort b r).2 ≤ 9223372036854775807 := by
  have h1 := sc_err (b := b) (r := r)
  have h2 := sc_lt (b := b) (r := r)
  obtain ⟨a1, a2, a3⟩ := h
  unfold rdShort
  split
  · exact ⟨⟨a1, a2, a3⟩, by simp⟩
  · split
    · refine ⟨⟨a1, ?_⟩, by simp⟩
      show 0 ≤ (sc b r).2.2 ∧ (sc b r).2.2 ≤ 3
      omega
    · rename_i h3 h4
      have h5 := sc_len (r := r) ⟨a1, a2, a3⟩ (by omega)
      refine ⟨⟨?_, by simp⟩, ?_⟩
      · show r.at_ + (sc b r).2.1 ≤ b.length; omega
      · show (0 : Int) ≤ ((sc b r).1 : Int) ∧ ((sc b r).1 : Int) ≤ _; omega
theorem rdSigned_ok {b : List UInt8} {r : RS} (h : ROk b r) : ROk b (rdSigned b r).1 ∧ I64 (rdSigned b r).2 := by
  have h1 := sc_err (b := b) (r := r)
  have h2 := sc_lt (b := b) (r := r)
  obtain ⟨a1, a2, a3⟩ := h
  unfold rdSigned
  split
  · exact ⟨⟨a1, a2, a3⟩, by simp [I64]⟩
  · split
    · refine ⟨⟨a1, ?_⟩, by simp [I64]⟩
      show 0 ≤ (sc b r).2.2 ∧ (sc b r).2.2 ≤ 3
      omega
    · split
      · exact ⟨⟨a1, by simp⟩, by simp [I64]⟩
      · rename_i h3 h4 _
        have h5 := sc_len (r := r) ⟨a1, a2, a3⟩ (by omega)
        refine ⟨⟨?_, by simp⟩, ?_⟩
        · show r.at_ + (sc b r).2.1 ≤ b.length; omega
        · show I64 (if (sc b r).1 % 2 = 1 then -1 - (((sc b r).1 / 2 : Nat) : Int) else (((sc b r).1 / 2 : Nat) : Int))
          unfold I64
          split <;> omega
theorem rdList_ok {b : List UInt8} {most : Nat} {r : RS} (h : ROk b r) : ROk b (rdList b most r).1 ∧ (rdList b most r).2 ≤ most := by
  have h1 := sc_err (b := b) (r := r)
  obtain ⟨a1, a2, a3⟩ := h
  unfold rdList
  split
  · exact ⟨⟨a1, a2, a3⟩, by simp⟩
  · split
    · refine ⟨⟨a1, ?_⟩, by simp⟩
      show 0 ≤ (sc b r).2.2 ∧ (sc b r).2.2 ≤ 3
      omega
    · split
      · exact ⟨⟨a1, by simp⟩, by simp⟩
      · split
        · exact ⟨⟨a1, by simp⟩, by simp⟩
        · rename_i h3 h4 h6 _
          have h5 := sc_len (r := r) ⟨a1, a2, a3⟩ (by omega)
          refine ⟨⟨?_, by simp⟩, ?_⟩
          · show r.at_ + (sc b r).2.1 ≤ b.length; omega
          · show (sc b r).1 ≤ most; omega
theorem rdByte_ok {b : List UInt8} {r : RS} (h : ROk b r) : ROk b (rdByte b r).1 ∧ (rdByte b r).2 < 256 := by
  obtain ⟨a1, a2, a3⟩ := h
  unfold rdByte
  split
  · exact ⟨⟨a1, a2, a3⟩, by simp⟩
  · split
    · refine ⟨⟨?_, by simp⟩, UInt8.toNat_lt _⟩
      show r.at_ + 1 ≤ b.length; omega
    · exact ⟨⟨a1, by simp⟩, by simp⟩
theorem rdMany_ok {α : Type} {b : List UInt8} {f : RS → RS × α} {p : α → Prop} (hf : ∀ r, ROk b r → ROk b (f r).1 ∧ p (f r).2) : ∀ (n : Nat) (r : RS), ROk b r → ROk b (rdMany f n r).1 ∧ ∀ a ∈ (rdMany f n r).2, p a
  | 0, r, h => ⟨h, by simp [rdMany]⟩
  | n + 1, r, h => by
    obtain ⟨h1, h2⟩ := rdMany_ok hf n r h
    obtain ⟨h3, h4⟩ := hf _ h1
    refine ⟨h3, fun a ha => ?_⟩
    rcases List.mem_append.1 ha with ha | ha
    · exact h2 a ha
    · simp at ha; subst ha; exact h4
theorem rdNums_ok {b : List UInt8} {r : RS} (h : ROk b r) : ROk b (rdNums b r).1 ∧ (rdNums b r).2.length ≤ 8 ∧ ∀ x ∈ (rdNums b r).2, 0 ≤ x ∧ x ≤ 9223372036854775807 := by
  obtain ⟨h1, h2⟩ := rdList_ok (most := 8) h
  obtain ⟨h3, h4⟩ := rdMany_ok (p := fun x => 0 ≤ x ∧ x ≤ 9223372036854775807) (fun r hr => rdShort_ok hr) (rdList b 8 r).2 _ h1
  exact ⟨h3, by unfold rdNums; rw [rdMany_len]; exact h2, h4⟩
theorem rdIns_ok {b : List UInt8} {r : RS} (h : ROk b r) : ROk b (rdIns b r).1 ∧ (0 ≤ (rdIns b r).2.op ∧ (rdIns b r).2.op < 256) ∧ I64 (rdIns b r).2.a := by
  obtain ⟨h1, h2⟩ := rdByte_ok h
  obtain ⟨h3, h4⟩ := rdSigned_ok h1
  refine ⟨h3, ?_, h4⟩
  show 0 ≤ ((rdByte b r).2 : Int) ∧ ((rdByte b r).2 : Int) < 256
  omega
theorem rdFn_ok {b : List UInt8} {r : RS} (h : ROk b r) : ROk b (rdFn b r).1 ∧ I64 (rdFn b r).2.locals ∧ (∀ i ∈ (rdFn b r).2.code, I64 i.op ∧ I64 i.a) ∧ (rdFn b r).2.code.length ≤ 64 := by
  obtain ⟨h1, h2⟩ := rdShort_ok h
  obtain ⟨h3, h4⟩ := rdList_ok (most := 64) h1
  obtain ⟨h5, h6⟩ := rdMany_ok (p := fun i : Ins => I64 i.op ∧ I64 i.a) (fun r hr => by obtain ⟨a, b, c⟩ := rdIns_ok hr; exact ⟨a, ⟨by omega, by omega⟩, c⟩) (rdList b 64 (rdShort b r).1).2 _ h3
  refine ⟨h5, ⟨?_, ?_⟩, h6, ?_⟩
  · show _ ≤ (rdShort b r).2; omega
  · show (rdShort b r).2 ≤ _; omega
  · show (rdMany _ _ _).2.length ≤ 64; rw [rdMany_len]; exact h4
end Go.Hb
namespace Go.Hb
open Go
open Go
/-! what a reader's method does -/
def RPost (s : List AObj) (id : Nat) (b : List UInt8) (v : List Nat) (r' : RS) (y0 : LV) : LV → List AObj → List Nat → Prop := fun y s' v' => y0 = y ∧ s.set id (.cells (rdO b r')) = s' ∧ v <+: v'
theorem callRd {P : Program} {f : FuncId} {args : List LV} {s : List AObj} {v : List Nat} {id : Nat} {b : List UInt8} {r' : RS} {y0 : LV} {K : LV → List AObj → List Nat → Prop} (h : aCalls P f args s v (RPost s id b v r' y0)) (k : ∀ v', v <+: v' → K y0 (s.set id (.cells (rdO b r'))) v') : aCalls P f args s v K :=
  aCalls_mono h fun y s' v' ⟨e1, e2, e3⟩ => by subst e1; subst e2; exact k v' e3
theorem rdO_under (b : List UInt8) (r : RS) (n : Nat) : undersB n (rdO b r) = true := by simp [rdO]
theorem RPost.of {P : Program} {f : FuncId} {args : List LV} {s : List AObj} {v : List Nat} {id : Nat} {b : List UInt8} {r' : RS} {y0 : LV} (hy : y0.under s.length = true) (h : aCalls P f args s v fun y s' v' => (∃ J, s.set id (.cells (rdO b r')) ++ J = s') ∧ y0 = y ∧ v <+: v') : aCalls P f args s v (RPost s id b v r' y0) := by
  refine aCalls_drop (aCalls_mono h fun y s' v' ⟨⟨J, e1⟩, e2, e3⟩ => ?_)
  subst e2
  refine ⟨s.set id (.cells (rdO b r')), J, e1.symm, by simp, hy, fun i o ho => ?_, rfl, rfl, e3⟩
  by_cases e : id = i
  · subst e
    right
    have hi := (List.getElem?_eq_some_iff.1 ho).1
    rw [List.getElem?_set_self (by simpa using hi)] at ho
    cases ho
    exact rdO_under b r' _
  · rw [List.getElem?_set_ne e] at ho; exact .inl ho
/-- The facts on a place in s, for simp. -/
theorem at_app {s : List AObj} {id : Nat} {o : AObj} (h : s[id]? = some o) : ∀ l, (s ++ l)[id]? = some o := fun l => getElem?_app_l h
where
  getElem?_app_l {s l : List AObj} {id : Nat} {o : AObj} (h : s[id]? = some o) : (s ++ l)[id]? = some o := by rw [List.getElem?_append_left (List.getElem?_eq_some_iff.1 h).1]; exact h
theorem at_set {s : List AObj} {id : Nat} {o : AObj} (h : s[id]? = some o) : ∀ o' l, (s ++ l).set id o' = s.set id o' ++ l := fun o' l => List.set_append_left _ _ (List.getElem?_eq_some_iff.1 h).1
theorem at_self {s : List AObj} {id : Nat} {o : AObj} (h : s[id]? = some o) : ∀ o', (s.set id o')[id]? = some o' := fun o' => by simp [(List.getElem?_eq_some_iff.1 h).1]
theorem set_get0 {s : List AObj} {id : Nat} : ∀ o l, (s.set id o ++ l)[s.length]? = l[0]? := fun o l => by have := get_app0 (s.set id o) l; simpa using this
theorem set_get {s : List AObj} {id : Nat} : ∀ o l k, (s.set id o ++ l)[s.length + k]? = l[k]? := fun o l k => by have := get_app (s.set id o) l k; simpa using this
theorem set_same {s : List AObj} {id : Nat} {o : AObj} (h : s[id]? = some o) : s.set id o = s := by
  apply List.ext_getElem?
  intro i
  by_cases e : id = i
  · subst e; rw [at_self h, h]
  · rw [List.getElem?_set_ne e]
end Go.Hb
namespace Go.Hb
open Go
theorem callS {P : Program} {f : FuncId} {args : List LV} {s S1 : List AObj} {v : List Nat} {y0 : LV} {K : LV → List AObj → List Nat → Prop} (h : aCalls P f args s v fun y s1 v1 => y0 = y ∧ S1 = s1 ∧ v <+: v1) (k : ∀ v', v <+: v' → K y0 S1 v') : aCalls P f args s v K :=
  aCalls_mono h fun y s' v' ⟨e1, e2, e3⟩ => by subst e1; subst e2; exact k v' e3
theorem callT {P : Program} {f : FuncId} {args : List LV} {s S1 : List AObj} {v : List Nat} {y0 : LV} {K : LV → List AObj → List Nat → Prop} (h : aCalls P f args s v fun y s1 v1 => y0 = y ∧ S1 = s1 ∧ v = v1) (k : K y0 S1 v) : aCalls P f args s v K :=
  aCalls_mono h fun y s' v' ⟨e1, e2, e3⟩ => by subst e1; subst e2; subst e3; exact k
end Go.Hb
namespace Go.Hb
theorem rdShort_no {b : List UInt8} {r : RS} (h : r.e ≠ 0) : rdShort b r = (r, 0) := by simp [rdShort, h]
theorem rdShort_err {b : List UInt8} {a x n : Nat} {e : Int} (h : sc b ⟨a, 0⟩ = (x, n, e)) (h3 : e ≠ 0) : rdShort b ⟨a, 0⟩ = (⟨a, e⟩, 0) := by simp [rdShort, h, h3]
theorem rdShort_yes {b : List UInt8} {a x n : Nat} (h : sc b ⟨a, 0⟩ = (x, n, 0)) : rdShort b ⟨a, 0⟩ = (⟨a + n, 0⟩, (x : Int)) := by simp [rdShort, h]
theorem rdSigned_no {b : List UInt8} {r : RS} (h : r.e ≠ 0) : rdSigned b r = (r, 0) := by simp [rdSigned, h]
theorem rdSigned_err {b : List UInt8} {a x n : Nat} {e : Int} (h : sc b ⟨a, 0⟩ = (x, n, e)) (h3 : e ≠ 0) : rdSigned b ⟨a, 0⟩ = (⟨a, e⟩, 0) := by simp [rdSigned, h, h3]
theorem rdSigned_big {b : List UInt8} {a x n : Nat} (h : sc b ⟨a, 0⟩ = (x, n, 0)) (h3 : 2305843009213693952 ≤ x / 2) : rdSigned b ⟨a, 0⟩ = (⟨a, 3⟩, 0) := by simp [rdSigned, h, h3]
theorem rdSigned_odd {b : List UInt8} {a x n : Nat} (h : sc b ⟨a, 0⟩ = (x, n, 0)) (h3 : ¬ 2305843009213693952 ≤ x / 2) (h4 : x % 2 = 1) : rdSigned b ⟨a, 0⟩ = (⟨a + n, 0⟩, -1 - ((x / 2 : Nat) : Int)) := by simp [rdSigned, h, h3, h4]
theorem rdSigned_even {b : List UInt8} {a x n : Nat} (h : sc b ⟨a, 0⟩ = (x, n, 0)) (h3 : ¬ 2305843009213693952 ≤ x / 2) (h4 : ¬ x % 2 = 1) : rdSigned b ⟨a, 0⟩ = (⟨a + n, 0⟩, ((x / 2 : Nat) : Int)) := by simp [rdSigned, h, h3, h4]
theorem rdList_no {b : List UInt8} {most : Nat} {r : RS} (h : r.e ≠ 0) : rdList b most r = (r, 0) := by simp [rdList, h]
theorem rdList_err {b : List UInt8} {most a x n : Nat} {e : Int} (h : sc b ⟨a, 0⟩ = (x, n, e)) (h3 : e ≠ 0) : rdList b most ⟨a, 0⟩ = (⟨a, e⟩, 0) := by simp [rdList, h, h3]
theorem rdList_big {b : List UInt8} {most a x n : Nat} (h : sc b ⟨a, 0⟩ = (x, n, 0)) (h3 : most < x) : rdList b most ⟨a, 0⟩ = (⟨a, 3⟩, 0) := by simp [rdList, h, h3]
theorem rdList_few {b : List UInt8} {most a x n : Nat} (h : sc b ⟨a, 0⟩ = (x, n, 0)) (h3 : ¬ most < x) (h4 : b.length < a + n + x) : rdList b most ⟨a, 0⟩ = (⟨a, 2⟩, 0) := by simp [rdList, h, h3, h4]
theorem rdList_yes {b : List UInt8} {most a x n : Nat} (h : sc b ⟨a, 0⟩ = (x, n, 0)) (h3 : ¬ most < x) (h4 : ¬ b.length < a + n + x) : rdList b most ⟨a, 0⟩ = (⟨a + n, 0⟩, x) := by simp [rdList, h, h3, h4]
theorem rdByte_no {b : List UInt8} {r : RS} (h : r.e ≠ 0) : rdByte b r = (r, 0) := by simp [rdByte, h]
theorem rdByte_few {b : List UInt8} {a : Nat} (h : ¬ a < b.length) : rdByte b ⟨a, 0⟩ = (⟨a, 2⟩, 0) := by simp [rdByte, h]
theorem rdByte_yes {b : List UInt8} {a : Nat} (h : a < b.length) : rdByte b ⟨a, 0⟩ = (⟨a + 1, 0⟩, (nth b a).toNat) := by simp [rdByte, h]
end Go.Hb
namespace Go.Hb
theorem RPost.ofW {P : Program} {f : FuncId} {args : List LV} {s : List AObj} {v : List Nat} {id : Nat} {b : List UInt8} {r' : RS} {y0 : LV} (h : aCalls P f args s v fun y s' v' => (∃ J, s.set id (.cells (rdO b r')) ++ J = s') ∧ (Weak y y0 ∧ y.under s.length = true) ∧ v <+: v') : aCalls P f args s v (RPost s id b v r' y0) := by
  refine aCalls_weak (aCalls_drop (aCalls_mono h fun y s' v' ⟨⟨J, e1⟩, ⟨e2, e4⟩, e3⟩ => ?_))
  refine ⟨s.set id (.cells (rdO b r')), J, e1.symm, by simp, e4, fun i o ho => ?_, y0, s.set id (.cells (rdO b r')), e2, WeakS.refl _, rfl, rfl, e3⟩
  by_cases e : id = i
  · subst e
    right
    have hi := (List.getElem?_eq_some_iff.1 ho).1
    rw [List.getElem?_set_self (by simpa using hi)] at ho
    cases ho
    exact rdO_under b r' _
  · rw [List.getElem?_set_ne e] at ho; exact .inl ho
def rbL (b : List UInt8) (r : RS) : List UInt8 := if r.e ≠ 0 then [] else if r.at_ < b.length then [nth b r.at_] else []
end Go.Hb
end

section
namespace Go.Hb
open Go
/-! what was written is read; what is read was written -/
/-- Where w lies, a is read. -/
def Rds {α : Type} (f : List UInt8 → RS → RS × α) (w : List UInt8) (a : α) : Prop := ∀ b at_ post, b.drop at_ = w ++ post → f b ⟨at_, 0⟩ = (⟨at_ + w.length, 0⟩, a)
theorem drop_next {b w post : List UInt8} {a : Nat} (h : b.drop a = w ++ post) : b.drop (a + w.length) = post := by
  rw [← List.drop_drop, h, List.drop_left]
theorem shortN_lt {n : Nat} (h : n ≤ 9223372036854775807) : (shortN n).length ≤ 9 := shortN_len 9 n (by have e : (128 : Nat) ^ 9 = 9223372036854775808 := by decide
                                                                                                        omega) (by omega)
theorem sc_short {b post : List UInt8} {a n : Nat} (hn : n ≤ 9223372036854775807) (h : b.drop a = shortN n ++ post) : sc b ⟨a, 0⟩ = (n, (shortN n).length, 0) := by
  unfold sc
  rw [h, scan_short n post 0 0 (by have := shortN_lt hn; omega) (by omega)]
  simp
theorem short_rds {v : Int} (h0 : 0 ≤ v) (h1 : v ≤ 9223372036854775807) : Rds rdShort (shortB v) v := fun b a post h => by
  obtain ⟨n, rfl⟩ : ∃ n : Nat, v = n := ⟨v.toNat, by omega⟩
  have e : shortB (n : Int) = shortN n := by simp [shortB]
  rw [e] at h ⊢
  rw [rdShort_yes (sc_short (by omega) h)]
theorem signedB_in {v : Int} (h0 : -2305843009213693952 ≤ v) (h1 : v ≤ 2305843009213693951) : signedB v = if v < 0 then shortB (2 * (-(v + 1)) + 1) else shortB (2 * v) := by
  simp only [signedB, if_neg (by omega : ¬ v < -2305843009213693952), if_neg (by omega : ¬ 2305843009213693951 < v)]
theorem u8_ofInt_nat (n : Nat) : UInt8.ofInt (n : Int) = UInt8.ofNat n := by
  apply UInt8.toNat_inj.1
  unfold UInt8.ofInt
  simp; omega
theorem signed_rds {v : Int} (h0 : -2305843009213693952 ≤ v) (h1 : v ≤ 2305843009213693951) : Rds rdSigned (signedB v) v := fun b a post h => by
  rw [signedB_in h0 h1] at h ⊢
  by_cases hv : v < 0
  · rw [if_pos hv] at h ⊢
    obtain ⟨n, hn⟩ : ∃ n : Nat, 2 * (-(v + 1)) + 1 = (n : Int) := ⟨(2 * (-(v + 1)) + 1).toNat, by omega⟩
    have e : shortB (n : Int) = shortN n := by simp [shortB]
    rw [hn, e] at h ⊢
    rw [rdSigned_odd (sc_short (by omega) h) (by omega) (by omega)]
    congr 1
    omega
  · rw [if_neg hv] at h ⊢
    obtain ⟨n, hn⟩ : ∃ n : Nat, 2 * v = (n : Int) := ⟨(2 * v).toNat, by omega⟩
    have e : shortB (n : Int) = shortN n := by simp [shortB]
    rw [hn, e] at h ⊢
    rw [rdSigned_even (sc_short (by omega) h) (by omega) (by omega)]
    congr 1
    omega
theorem drop_cons_facts {b post : List UInt8} {a : Nat} {c : UInt8} (h : b.drop a = c :: post) : a < b.length ∧ nth b a = c := by
  have hl : a < b.length := by
    have := congrArg List.length h
    simp at this; omega
  refine ⟨hl, ?_⟩
  rw [drop_nth hl] at h
  exact (List.cons.inj h).1
theorem byte_rds (c : UInt8) : Rds rdByte [c] c.toNat := fun b a post h => by
  obtain ⟨h1, h2⟩ := drop_cons_facts (c := c) (post := post) (by simpa using h)
  rw [rdByte_yes h1, h2]; rfl
theorem list_rds {b post : List UInt8} {a n most : Nat} (hn : n ≤ most) (hm : most ≤ 1000) (hp : n ≤ post.length) (h : b.drop a = shortB (n : Int) ++ post) : rdList b most ⟨a, 0⟩ = (⟨a + (shortB (n : Int)).length, 0⟩, n) := by
  have e : shortB (n : Int) = shortN n := by simp [shortB]
  rw [e] at h ⊢
  have hl := congrArg List.length h
  simp only [List.length_drop, List.length_append] at hl
  have hpos : 0 < (shortN n).length := by rw [shortN]; split <;> simp
  rw [rdList_yes (sc_short (by omega) h) (by omega) (by omega)]
theorem many_rds {α : Type} [Enc α] {f : List UInt8 → RS → RS × α} {w : α → List UInt8} {l : List α} (hf : ∀ x ∈ l, Rds f (w x) x) {b post : List UInt8} {a : Nat} (h : b.drop a = l.flatMap w ++ post) :
    ∀ n, n ≤ l.length → rdMany (f b) n ⟨a, 0⟩ = (⟨a + ((l.take n).flatMap w).length, 0⟩, l.take n)
  | 0, _ => by simp [rdMany]
  | n + 1, hn => by
    have ih := many_rds hf h n (by omega)
    simp only [rdMany, ih]
    have hsplit : l.flatMap w = (l.take n).flatMap w ++ (w (nth l n) ++ (l.drop (n + 1)).flatMap w) := by
      have e := (List.take_append_drop n l).symm
      conv => lhs; rw [e]
      rw [List.flatMap_append, drop_nth (by omega : n < l.length), List.flatMap_cons]
    rw [hsplit, List.append_assoc, List.append_assoc] at h
    have h2 := drop_next h
    have hm : nth l n ∈ l := by rw [nth_eq (by omega)]; exact List.getElem_mem _
    rw [hf _ hm b _ _ h2]
    rw [take_succ_nth (by omega : n < l.length), List.flatMap_append]
    simp [Nat.add_assoc]
theorem flat_ge {α : Type} {w : α → List UInt8} : ∀ {l : List α}, (∀ x ∈ l, 1 ≤ (w x).length) → l.length ≤ (l.flatMap w).length
  | [], _ => by simp
  | x :: l, h => by
    have h1 := h x (by simp)
    have h2 := flat_ge (w := w) (l := l) fun y hy => h y (by simp [hy])
    rw [List.flatMap_cons, List.length_append, List.length_cons]; omega
theorem shortB_ge (n : Int) : 1 ≤ (shortB n).length := by unfold shortB; rw [shortN]; split <;> simp
theorem signedB_ge (n : Int) : 1 ≤ (signedB n).length := by
  have : ∀ v : Int, 1 ≤ (if v < 0 then shortB (2 * (-(v + 1)) + 1) else shortB (2 * v)).length := fun v => by split <;> exact shortB_ge _
  exact this _
theorem counted_rds {α : Type} [Enc α] {f : List UInt8 → RS → RS × α} {w : α → List UInt8} {l : List α} {most : Nat} (hl : l.length ≤ most) (hm : most ≤ 1000) (hf : ∀ x ∈ l, Rds f (w x) x) (hw : ∀ x ∈ l, 1 ≤ (w x).length) :
    Rds (fun b r => rdMany (f b) (rdList b most r).2 (rdList b most r).1) (shortB l.length ++ l.flatMap w) l := fun b a post h => by
  rw [List.append_assoc] at h
  have hp : l.length ≤ (l.flatMap w ++ post).length := by have := flat_ge hw; simp only [List.length_append]; omega
  have h1 := list_rds hl hm hp h
  have h2 := many_rds hf (drop_next h) l.length (Nat.le_refl _)
  simp only [h1, h2]
  rw [List.take_length]
  simp [Nat.add_assoc]
theorem nums_rds {l : List Int} (hl : l.length ≤ 8) (h : ∀ x ∈ l, 0 ≤ x ∧ x ≤ 9223372036854775807) : Rds rdNums (listB l) l :=
  counted_rds hl (by omega) (fun x hx => short_rds (h x hx).1 (h x hx).2) fun x _ => shortB_ge x
theorem ins_rds {i : Ins} (h : 0 ≤ i.op ∧ i.op < 256) (h1 : -2305843009213693952 ≤ i.a) (h2 : i.a ≤ 2305843009213693951) : Rds rdIns (insB i) i := fun b a post hd => by
  have e : (UInt8.ofInt i.op).toNat = i.op.toNat := by
    unfold UInt8.ofInt
    simp; omega
  have hd' : b.drop a = [UInt8.ofInt i.op] ++ (signedB i.a ++ post) := by simpa [insB] using hd
  have h3 := byte_rds (UInt8.ofInt i.op) b a _ hd'
  have h4 := signed_rds h1 h2 b _ _ (drop_next hd')
  unfold rdIns
  rw [h3, h4, e]
  obtain ⟨op, ia⟩ := i
  simp only at *
  have e2 : ((op.toNat : Nat) : Int) = op := by omega
  rw [e2]
  simp [insB]; omega
theorem insB_ge (i : Ins) : 1 ≤ (insB i).length := by simp [insB]
theorem fn_rds {f : Fn_} (h : 0 ≤ f.locals ∧ f.locals ≤ 8) (hl : f.code.length ≤ 64) (hi : ∀ i ∈ f.code, (0 ≤ i.op ∧ i.op < 256) ∧ -2305843009213693952 ≤ i.a ∧ i.a ≤ 2305843009213693951) : Rds rdFn (fnB f) f := fun b a post hd => by
  unfold fnB at hd
  rw [List.append_assoc, List.append_assoc] at hd
  have h1 := short_rds h.1 (by omega) b a _ hd
  have hd2 := drop_next hd
  rw [← List.append_assoc] at hd2
  have h2 := counted_rds (f := rdIns) hl (by omega) (fun x hx => ins_rds (hi x hx).1 (hi x hx).2.1 (hi x hx).2.2) (fun x _ => insB_ge x) b _ _ hd2
  unfold rdFn
  simp only [h1]
  simp only at h2
  rw [h2]
  simp [fnB]; omega
theorem fnB_ge (f : Fn_) : 1 ≤ (fnB f).length := by have := shortB_ge f.locals; simp [fnB]; omega
theorem listB_ge (l : List Int) : 1 ≤ (listB l).length := by have := shortB_ge l.length; simp [listB]; omega
theorem allTo_in {l : List Int} {to : Int} (h : allTo l to = true) (ht : to ≤ 1000) : ∀ x ∈ l, 0 ≤ x ∧ x ≤ 9223372036854775807 := by
  unfold allTo at h
  rw [List.all_eq_true] at h
  intro x hx
  have := h x hx
  simp only [Bool.and_eq_true, decide_eq_true_eq] at this
  omega
theorem mayI_in {p : Prog} {f : Fn_} {i : Ins} (h : mayI p f i = true) (hm : most p f i.op ≤ 1073741825) : (0 ≤ i.op ∧ i.op < 256) ∧ -2305843009213693952 ≤ i.a ∧ i.a ≤ 2305843009213693951 := by
  unfold mayI at h
  simp only [Bool.and_eq_true, decide_eq_true_eq] at h
  obtain ⟨⟨r1, r2⟩, r3⟩ := h
  refine ⟨⟨r1, by omega⟩, ?_⟩
  split at r3
  · split at r3
    · rename_i h1; simp at r3; omega
    · simp at r3; omega
  · simp at r3; omega
theorem most_le {p : Prog} {f : Fn_} (h : mayP p = true) (hf : f ∈ p.funcs) (op : Int) : most p f op ≤ 1073741825 := by
  unfold mayP at h
  simp only [Bool.and_eq_true, decide_eq_true_eq] at h
  obtain ⟨⟨⟨⟨⟨⟨⟨⟨⟨⟨⟨⟨⟨⟨p1, p2⟩, p3⟩, p4⟩, p5⟩, p6⟩, p7⟩, p8⟩, p9⟩, p10⟩, p11⟩, p12⟩, p13⟩, p14⟩, p15⟩ := h
  have := List.all_eq_true.1 p15 f hf
  unfold mayF at this
  simp only [Bool.and_eq_true, decide_eq_true_eq] at this
  unfold most mostL
  repeat' split
  all_goals omega
theorem read_write {p : Prog} (h : mayP p = true) : readP (writeP p) = (p, 0) := by
  have hml := fun f hf => most_le (p := p) (f := f) h hf
  have hmay := h
  obtain ⟨fs, mu, co, se, ch, cho, th⟩ := p
  unfold mayP at h
  simp only [Bool.and_eq_true, decide_eq_true_eq] at h
  obtain ⟨⟨⟨⟨⟨⟨⟨⟨⟨⟨⟨⟨⟨⟨p1, p2⟩, p3⟩, p4⟩, p5⟩, p6⟩, p7⟩, p8⟩, p9⟩, p10⟩, p11⟩, p12⟩, p13⟩, p14⟩, p15⟩ := h
  obtain ⟨b, hb⟩ : ∃ b, writeP ⟨fs, mu, co, se, ch, cho, th⟩ = b := ⟨_, rfl⟩
  have d0 : b.drop 0 = (shortB fs.length ++ fs.flatMap fnB) ++ (shortB mu ++ (listB co ++ (listB se ++ (listB ch ++ ((shortB cho.length ++ cho.flatMap listB) ++ (shortB th ++ [])))))) := by
    rw [← hb]; simp [writeP]
  have f1 := counted_rds (f := rdFn) (most := 16) (l := fs) p2 (by omega) (fun f hf => by
    have := List.all_eq_true.1 p15 f hf
    unfold mayF at this
    simp only [Bool.and_eq_true, decide_eq_true_eq] at this
    obtain ⟨⟨⟨q1, q2⟩, q3⟩, q4⟩ := this
    exact fn_rds ⟨q1, q2⟩ q3 fun i hi => mayI_in (List.all_eq_true.1 q4 i hi) (hml f hf _)) (fun f _ => fnB_ge f) b 0 _ d0
  have d1 := drop_next d0
  have f2 := short_rds p3 (by omega) b _ _ d1
  have d2 := drop_next d1
  have f3 := nums_rds p5 (allTo_in p11 (by omega)) b _ _ d2
  have d3 := drop_next d2
  have f4 := nums_rds p6 (allTo_in p12 (by omega)) b _ _ d3
  have d4 := drop_next d3
  have f5 := nums_rds p7 (allTo_in p13 (by omega)) b _ _ d4
  have d5 := drop_next d4
  have f6 := counted_rds (f := rdNums) (most := 8) (l := cho) p8 (by omega) (fun l hl => by
    have := List.all_eq_true.1 p14 l hl
    unfold mayCh at this
    simp only [Bool.and_eq_true, decide_eq_true_eq] at this
    obtain ⟨⟨⟨q1, q2⟩, q3⟩, q4⟩ := this
    exact nums_rds q4 (allTo_in q1 (by omega))) (fun l _ => listB_ge l) b _ _ d5
  have d6 := drop_next d5
  have f7 := short_rds (by omega : 0 ≤ th) (by omega) b _ _ d6
  have d7 := drop_next d6
  have hlen : b.length ≤ 0 + (shortB ↑fs.length ++ List.flatMap fnB fs).length + (shortB mu).length + (listB co).length + (listB se).length + (listB ch).length + (shortB ↑cho.length ++ List.flatMap listB cho).length + (shortB th).length := by
    have := congrArg List.length d7
    rw [List.length_drop, List.length_nil] at this
    omega
  rw [hb]
  unfold readP rdProg rdFuncs rdChoices
  simp only at f1 f6 ⊢
  simp only [f1, f2, f3, f4, f5, f6, f7]
  rw [if_neg (by simp), if_neg (by omega), if_pos hmay]

/-- What f reads, w writes. -/
def Inv {α : Type} (f : List UInt8 → RS → RS × α) (w : α → List UInt8) : Prop := ∀ b r, ROk b r → (f b r).1.e = 0 → r.e = 0 ∧ b.drop r.at_ = w (f b r).2 ++ b.drop (f b r).1.at_
theorem sc_inv {b : List UInt8} {a x n : Nat} (h : sc b ⟨a, 0⟩ = (x, n, 0)) : b.drop a = shortN x ++ b.drop (a + n) := by
  obtain ⟨m, e1, e2, e3, e4, _⟩ := short_scan (b.drop a) 0 0 x n h
  have : x = m := by simpa using e1
  subst this
  have e := (List.take_append_drop n (b.drop a)).symm
  rw [List.drop_drop] at e
  rw [show n - 0 = n by omega] at e3
  rw [e3] at e
  exact e
theorem short_inv : Inv rdShort shortB := fun b r hr h => by
  obtain ⟨a, e⟩ := r
  by_cases he : e = 0
  · subst he
    obtain ⟨⟨x, n, e⟩, hx⟩ : ∃ x, sc b ⟨a, 0⟩ = x := ⟨_, rfl⟩
    by_cases h3 : e = 0
    · subst h3
      rw [rdShort_yes hx]
      exact ⟨rfl, by rw [show shortB (x : Int) = shortN x by simp [shortB]]; exact sc_inv hx⟩
    · rw [rdShort_err hx h3] at h; exact absurd h h3
  · rw [rdShort_no he] at h; exact absurd h he
theorem signed_inv : Inv rdSigned signedB := fun b r hr h => by
  obtain ⟨a, e⟩ := r
  by_cases he : e = 0
  · subst he
    obtain ⟨⟨x, n, e⟩, hx⟩ : ∃ x, sc b ⟨a, 0⟩ = x := ⟨_, rfl⟩
    by_cases h3 : e = 0
    · subst h3
      by_cases h4 : 2305843009213693952 ≤ x / 2
      · rw [rdSigned_big hx h4] at h; exact absurd h (by simp)
      · have hsc := sc_inv hx
        by_cases h5 : x % 2 = 1
        · rw [rdSigned_odd hx h4 h5]
          refine ⟨rfl, ?_⟩
          have e : signedB (-1 - ((x / 2 : Nat) : Int)) = shortN x := by
            rw [signedB_in (by omega) (by omega), if_pos (by omega)]
            unfold shortB
            congr 1
            omega
          rw [e]; exact hsc
        · rw [rdSigned_even hx h4 h5]
          refine ⟨rfl, ?_⟩
          have e : signedB (((x / 2 : Nat) : Int)) = shortN x := by
            rw [signedB_in (by omega) (by omega), if_neg (by omega)]
            unfold shortB
            congr 1
            omega
          rw [e]; exact hsc
    · rw [rdSigned_err hx h3] at h; exact absurd h h3
  · rw [rdSigned_no he] at h; exact absurd h he
theorem list_inv (most : Nat) : Inv (fun b r => rdList b most r) (fun n => shortB (n : Int)) := fun b r hr h => by
  obtain ⟨a, e⟩ := r
  simp only at h ⊢
  by_cases he : e = 0
  · subst he
    obtain ⟨⟨x, n, e⟩, hx⟩ : ∃ x, sc b ⟨a, 0⟩ = x := ⟨_, rfl⟩
    by_cases h3 : e = 0
    · subst h3
      by_cases h4 : most < x
      · rw [rdList_big hx h4] at h; exact absurd h (by simp)
      · by_cases h5 : b.length < a + n + x
        · rw [rdList_few hx h4 h5] at h; exact absurd h (by simp)
        · rw [rdList_yes hx h4 h5]
          exact ⟨rfl, by rw [show shortB (x : Int) = shortN x by simp [shortB]]; exact sc_inv hx⟩
    · rw [rdList_err hx h3] at h; exact absurd h h3
  · rw [rdList_no he] at h; exact absurd h he
theorem byte_inv : Inv rdByte (fun n => [UInt8.ofNat n]) := fun b r hr h => by
  obtain ⟨a, e⟩ := r
  by_cases he : e = 0
  · subst he
    by_cases h1 : a < b.length
    · rw [rdByte_yes h1]
      refine ⟨rfl, ?_⟩
      simp only [UInt8.ofNat_toNat]
      rw [drop_nth h1]; rfl
    · rw [rdByte_few h1] at h; exact absurd h (by simp)
  · rw [rdByte_no he] at h; exact absurd h he
theorem many_inv {α : Type} {f : List UInt8 → RS → RS × α} {w : α → List UInt8} (hf : Inv f w) (hk : ∀ b r, ROk b r → ROk b (f b r).1) (b : List UInt8) (r : RS) (hr : ROk b r) : ∀ n, (rdMany (f b) n r).1.e = 0 → r.e = 0 ∧ b.drop r.at_ = (rdMany (f b) n r).2.flatMap w ++ b.drop (rdMany (f b) n r).1.at_
  | 0, h => ⟨h, by simp [rdMany]⟩
  | n + 1, h => by
    have hr1 := (rdMany_ok (b := b) (f := f b) (p := fun _ => True) (fun r hr => ⟨hk b r hr, trivial⟩) n r hr).1
    obtain ⟨h1, h2⟩ := hf b _ hr1 h
    obtain ⟨h3, h4⟩ := many_inv hf hk b r hr n h1
    refine ⟨h3, ?_⟩
    rw [h4, h2]
    simp [rdMany]
theorem counted_inv {α : Type} {f : List UInt8 → RS → RS × α} {w : α → List UInt8} {most : Nat} (hf : Inv f w) (hk : ∀ b r, ROk b r → ROk b (f b r).1) :
    Inv (fun b r => rdMany (f b) (rdList b most r).2 (rdList b most r).1) (fun l => shortB (l.length : Int) ++ l.flatMap w) := fun b r hr h => by
  simp only at h ⊢
  obtain ⟨h1, h2⟩ := many_inv hf hk b _ (rdList_ok hr).1 _ h
  obtain ⟨h3, h4⟩ := list_inv most b r hr h1
  refine ⟨h3, ?_⟩
  rw [h4, h2, rdMany_len]
  simp
theorem nums_inv : Inv rdNums listB := counted_inv short_inv fun b r hr => (rdShort_ok hr).1
theorem ins_inv : Inv rdIns insB := fun b r hr h => by
  obtain ⟨h1, h2⟩ := signed_inv b _ (rdByte_ok hr).1 h
  obtain ⟨h3, h4⟩ := byte_inv b r hr h1
  refine ⟨h3, ?_⟩
  rw [h4, h2]
  simp only [rdIns, insB, u8_ofInt_nat]
  rfl
theorem fn_inv : Inv rdFn fnB := fun b r hr h => by
  obtain ⟨h1, h2⟩ := counted_inv (most := 64) ins_inv (fun b r hr => (rdIns_ok hr).1) b _ (rdShort_ok hr).1 h
  obtain ⟨h3, h4⟩ := short_inv b r hr h1
  refine ⟨h3, ?_⟩
  rw [h4, h2]
  simp only [rdFn, fnB, List.append_assoc]
theorem read_inv {b : List UInt8} {p : Prog} (h : readP b = (p, 0)) : mayP p = true ∧ writeP p = b := by
  have hr0 : ROk b ⟨0, 0⟩ := ⟨Nat.zero_le _, by simp, by simp⟩
  unfold readP at h
  simp only at h
  split at h
  · rename_i he; exact absurd (Prod.mk.inj h).2 he
  · rename_i he
    simp only [ne_eq, Decidable.not_not] at he
    split at h
    · exact absurd (Prod.mk.inj h).2 (by simp)
    · rename_i hat
      split at h
      rotate_left
      · exact absurd (Prod.mk.inj h).2 (by simp)
      rename_i hmay
      have hp := (Prod.mk.inj h).1
      rw [hp] at hmay
      refine ⟨hmay, ?_⟩
      rw [← hp]
      have k1 := (rdList_ok (most := 16) hr0).1
      have q1 : ROk b (rdFuncs b ⟨0, 0⟩).1 := (rdMany_ok (p := fun _ => True) (fun r hr => ⟨(rdFn_ok hr).1, trivial⟩) _ _ k1).1
      have q2 := (rdShort_ok q1).1
      have q3 := (rdNums_ok q2).1
      have q4 := (rdNums_ok q3).1
      have q5 := (rdNums_ok q4).1
      have k6 := (rdList_ok (most := 8) q5).1
      have q6 : ROk b (rdChoices b (rdNums b (rdNums b (rdNums b (rdShort b (rdFuncs b ⟨0, 0⟩).1).1).1).1).1).1 := (rdMany_ok (p := fun _ => True) (fun r hr => ⟨(rdNums_ok hr).1, trivial⟩) _ _ k6).1
      obtain ⟨a7, b7⟩ := short_inv b _ q6 he
      obtain ⟨a6, b6⟩ := counted_inv (most := 8) nums_inv (fun b r hr => (rdNums_ok hr).1) b _ q5 a7
      obtain ⟨a5, b5⟩ := nums_inv b _ q4 a6
      obtain ⟨a4, b4⟩ := nums_inv b _ q3 a5
      obtain ⟨a3, b3⟩ := nums_inv b _ q2 a4
      obtain ⟨a2, b2⟩ := short_inv b _ q1 a3
      obtain ⟨a1, b1⟩ := counted_inv (most := 16) fn_inv (fun b r hr => (rdFn_ok hr).1) b _ hr0 a2
      have hend : b.drop (rdProg b ⟨0, 0⟩).1.at_ = [] := List.drop_of_length_le (by omega)
      have e : b = b.drop (RS.mk 0 0).at_ := by simp
      conv => rhs; rw [e, b1]
      unfold rdFuncs rdChoices at *
      rw [b2, b3, b4, b5, b6, b7]
      simp only [writeP, rdProg, rdFuncs, rdChoices, List.append_assoc] at hend ⊢
      rw [hend]
      simp
theorem noProg_no : mayP noProg = false := by decide
theorem read_err {b : List UInt8} (h : (readP b).2 ≠ 0) : (readP b).1 = noProg := by
  unfold readP at h ⊢
  simp only at h ⊢
  split
  · rfl
  · rename_i h1
    rw [if_neg h1] at h
    split
    · rfl
    · rename_i h2
      rw [if_neg h2] at h
      split
      · rename_i h3; rw [if_pos h3] at h; exact absurd rfl h
      · rfl
end Go.Hb
end

section
namespace Go.Hb
open Go
/-! the document's way to read a short number -/
def val_ (l : List UInt8) : Nat → Nat
  | 0 => 0
  | k + 1 => val_ l k + (nth l k).toNat % 128 * 128 ^ k
theorem val_lt (l : List UInt8) : ∀ k, val_ l k < 128 ^ k
  | 0 => by simp [val_]
  | k + 1 => by
    have h := val_lt l k
    have := Nat.mul_le_mul_right (128 ^ k) (show (nth l k).toNat % 128 + 1 ≤ 128 by omega)
    rw [Nat.add_mul] at this
    simp only [val_, Nat.pow_succ]; omega
theorem scan_lead {l : List UInt8} : ∀ k, k ≤ 9 → k ≤ l.length → (∀ i < k, 128 ≤ (nth l i).toNat) → scan l 0 0 = scan (l.drop k) k (val_ l k)
  | 0, _, _, _ => rfl
  | k + 1, h9, hl, h => by
    rw [scan_lead k (by omega) (by omega) (fun i hi => h i (by omega)), drop_nth (by omega)]
    simp only [scan]
    rw [if_neg (by omega), if_pos (h k (by omega))]
    rfl
/-- from the place n down: m bytes -/
def sv (l : List UInt8) (n : Nat) : Nat → Nat
  | 0 => 0
  | m + 1 => 128 * sv l n m + (nth l (n - m)).toNat % 128
theorem sv_val (l : List UInt8) (n : Nat) : ∀ m, m ≤ n + 1 → val_ l (n + 1 - m) + 128 ^ (n + 1 - m) * sv l n m = val_ l (n + 1)
  | 0, _ => by simp [sv]
  | m + 1, h => by
    have ih := sv_val l n m (by omega)
    have e : n + 1 - m = (n - m) + 1 := by omega
    have e2 : n + 1 - (m + 1) = n - m := by omega
    rw [e] at ih
    rw [e2, ← ih]
    simp only [val_, sv, Nat.pow_succ, Nat.mul_add, Nat.mul_assoc]
    rw [Nat.mul_comm (128 ^ (n - m)) ((nth l (n - m)).toNat % 128)]
    omega
theorem sv_all (l : List UInt8) (n : Nat) : sv l n (n + 1) = val_ l (n + 1) := by
  have := sv_val l n (n + 1) (Nat.le_refl _)
  simpa [val_] using this
theorem sv_lt (l : List UInt8) (n : Nat) : ∀ m, sv l n m < 128 ^ m
  | 0 => by simp [sv]
  | m + 1 => by
    have := sv_lt l n m
    have h2 : (nth l (n - m)).toNat % 128 < 128 := Nat.mod_lt _ (by omega)
    simp only [sv, Nat.pow_succ]; omega
theorem scan_nine {l : List UInt8} (hl : 9 ≤ l.length) (h : ∀ i < 9, 128 ≤ (nth l i).toNat) : scan l 0 0 = (0, 0, 3) := by
  rw [scan_lead 9 (Nat.le_refl _) hl h]
  cases l.drop 9 <;> simp [scan]
theorem scan_end {l : List UInt8} (hl : l.length < 9) (h : ∀ i < l.length, 128 ≤ (nth l i).toNat) : scan l 0 0 = (0, 0, 2) := by
  rw [scan_lead l.length (by omega) (Nat.le_refl _) h, List.drop_of_length_le (Nat.le_refl _)]
  simp [scan]; omega
theorem scan_at {l : List UInt8} {k : Nat} (h9 : k < 9) (hl : k < l.length) (h : ∀ i < k, 128 ≤ (nth l i).toNat) (hk : ¬ 128 ≤ (nth l k).toNat) :
    scan l 0 0 = if (shortN (val_ l (k + 1))).length = k + 1 then (val_ l (k + 1), k + 1, 0) else (0, 0, 3) := by
  have h1 : scan l 0 0 = if (nth l k).toNat = 0 ∧ 0 < k then (0, 0, 3) else (val_ l (k + 1), k + 1, 0) := by
    rw [scan_lead k (by omega) (by omega) h, drop_nth hl]
    simp only [scan]
    rw [if_neg (by omega), if_neg hk]; rfl
  by_cases hc : (nth l k).toNat = 0 ∧ 0 < k
  · rw [if_pos hc] at h1
    have hv : val_ l (k + 1) < 128 ^ k := by
      have := val_lt l k
      simp only [val_, hc.1]; simpa using this
    have := shortN_len k _ hv hc.2
    rw [h1, if_neg (by omega)]
  · rw [if_neg hc] at h1
    obtain ⟨n, e1, e2, _⟩ := short_scan l 0 0 _ _ h1
    have : n = val_ l (k + 1) := by simpa using e1.symm
    subst this
    rw [h1, if_pos (by simpa using e2)]
end Go.Hb
end

section
namespace Go.Hb
open Go
/-! in the midst of a body an object becomes a value -/
/-- What is known as x is known as y when the object id, of the cells cs, is a value. -/
def Frz (id : Nat) (cs : List LV) (x y : LV) : Prop := ∀ C s, Ok C s → s[id]? = some (.cells cs) → cs ≠ [] → ∀ v, RelV C x v → RelV (C.freeze id cs.length) y v
theorem frz_le {C : Ctx} {s : List AObj} {id : Nat} {cs : List LV} (h : Ok C s) (hs : s[id]? = some (.cells cs)) (hne : cs ≠ []) : C.le (C.freeze id cs.length) := by
  have hid := (List.getElem?_eq_some_iff.1 hs).1
  have hlim : C.lim (C.ρ id) = 0 := (h.own id (by rw [h.n]; exact hid)).2.1.resolve_left fun hb => by
    rw [hs] at hb; simp at hb; exact hne hb
  exact h.le_freeze _ hlim
theorem Frz.refl (id : Nat) (cs : List LV) (x : LV) : Frz id cs x x := fun C s h hs hne v r => RelV.mono (frz_le h hs hne) x v r
theorem Frz.ref {id : Nat} {cs : List LV} {sz off len : Nat} {fl : Bool} (hb : off + len * sz ≤ cs.length) : Frz id cs (.ref sz id off len fl) (.imm sz len ((cs.drop off).take (len * sz)) .no) := fun C s h hs hne v r => by
  have hle := frz_le h hs hne
  simp only [RelV] at r
  obtain ⟨q0, cap, rfl, q1, q2, q3⟩ := r
  obtain ⟨vs', T, us, ws, p1, p2, p3, p4⟩ := h.obj id _ hs
  have pl := p3.length
  simp only [RelV]
  refine ⟨some ⟨C.ρ id, off, none⟩, cap, rfl, q1, q2, by simp; omega, (by intro h; cases h), fun a ha _ => by cases ha; rfl, fun b o hb => ?_, trivial⟩
  cases hb
  have pv : vs'.size = us.length + ws.length := by have := congrArg List.length p2; simpa using this
  refine RelCs.of_row (C := C.freeze id cs.length) p1 _ ((us.drop off).take (len * sz)) off (((RelVs.mono hle _ _ p3).drop _).take _) (fun u hu => p4 u (List.mem_of_mem_drop (List.mem_of_mem_take hu))) (fun j u hj => ?_) ?_
  · have hj' := (List.getElem?_eq_some_iff.1 hj).1
    have hlt : j < len * sz := by simp at hj'; omega
    rw [List.getElem?_take_of_lt hlt, List.getElem?_drop] at hj
    have : vs'.toList[off + j]? = some u := by
      rw [p2, List.getElem?_append_left (List.getElem?_eq_some_iff.1 hj).1]; exact hj
    simpa using this
  · simp only [Ctx.freeze, if_true, List.length_take, List.length_drop]; omega
def Frzs (id : Nat) (cs : List LV) : List LV → List LV → Prop
  | [], [] => True
  | x :: xs, y :: ys => Frz id cs x y ∧ Frzs id cs xs ys
  | _, _ => False
theorem Frzs.length {id : Nat} {cs : List LV} : ∀ {xs ys : List LV}, Frzs id cs xs ys → xs.length = ys.length
  | [], [], _ => rfl
  | [], _ :: _, h => h.elim
  | _ :: _, [], h => h.elim
  | _ :: _, _ :: _, h => by simp [Frzs.length h.2]
theorem Frzs.cells {id : Nat} {cs : List LV} {C : Ctx} {s : List AObj} (h : Ok C s) (hs : s[id]? = some (.cells cs)) (hne : cs ≠ []) {b : Nat} : ∀ {xs ys : List LV} {o : Nat}, Frzs id cs xs ys → RelCs C b xs o → RelCs (C.freeze id cs.length) b ys o
  | [], [], _, _, _ => by simp [RelCs]
  | [], _ :: _, _, k, _ => k.elim
  | _ :: _, [], _, k, _ => k.elim
  | x :: xs, y :: ys, o, k, r => by
    simp only [RelCs] at r ⊢
    obtain ⟨⟨v, e1, e2, e3, e4⟩, e5⟩ := r
    exact ⟨⟨v, e1, Nat.lt_of_lt_of_le e2 ((frz_le h hs hne).lim b), e3, k.1 C s h hs hne v e4⟩, Frzs.cells h hs hne k.2 e5⟩
theorem Frz.imm {id : Nat} {cs : List LV} {sz n : Nat} {xs ys : List LV} {r : Right} (k : Frzs id cs xs ys) : Frz id cs (.imm sz n xs r) (.imm sz n ys .no) := fun C s h hs hne v hr => by
  simp only [RelV] at hr ⊢
  obtain ⟨A, cap, e1, e2, e3, e4, e5, e6, e7, _⟩ := hr
  exact ⟨A, cap, e1, e2, e3, by rw [← k.length]; exact e4, e5, e6, fun b o hA => Frzs.cells h hs hne k (e7 b o hA), trivial⟩
theorem aW_frz {P : Program} {r : Option Nat} {N : Nat} {c : Code} {Q : Exit → St → Prop} {t t' : Nat → LV} {s : List AObj} {v : List Nat} {id : Nat} {cs : List LV} (hs : s[id]? = some (.cells cs)) (hne : cs ≠ []) (ht : ∀ i, Frz id cs (t i) (t' i)) (h : aW P r N c Q ⟨t', s.set id (.cells []), v⟩) : aW P r N c Q ⟨t, s, v⟩ := fun B C a h1 h2 h3 h4 => by
  have hle := frz_le h1 hs hne
  have hid := (List.getElem?_eq_some_iff.1 hs).1
  have hlim : C.lim (C.ρ id) = 0 := (h1.own id (by rw [h1.n]; exact hid)).2.1.resolve_left fun hb => by
    rw [hs] at hb; simp at hb; exact hne hb
  have := h B (C.freeze id cs.length) a (h1.freeze hid hlim hs hne) h2 ⟨h3.1, fun i => ht i C s h1 hs hne _ (h3.2.1 i), RelD.mono hle h3.2.2⟩ (rOk.mono hle h4)
  rw [Fr.eq hle h4] at this
  exact wpIn_mono this fun e a w hl => Lift.from hle hl
theorem aWs_frz {P : Program} {r : Option Nat} {N : Nat} {own : Bool} {id' : Nat} {c y : Code} {Q : Exit → St → Prop} {tk : TokQ y Q} {t t' : Nat → LV} {s s' : List AObj} {v : List Nat} (id : Nat) (cs : List LV) (hs : s[id]? = some (.cells cs)) (hne : cs ≠ []) (ht : ∀ i, Frz id cs (t i) (t' i)) (he : s.set id (.cells []) = s') (h : aWs P r N own id' c y Q tk ⟨t', s', v⟩) : aWs P r N own id' c y Q tk ⟨t, s, v⟩ := by
  subst he
  exact aW_frz hs hne ht h
/-! ### a row of the call's own that grows at its end by whole rows -/
theorem own_app2 {P : Program} {t t2 : TypeId} {sz by_ : Nat} (hok : appOk P t t2 sz by_ = true) (hby : by_ ≤ 1000) {S : List AObj} {n m id : Nat} {cs ds : List LV} {Y : LV} (hn : n ≠ 0) (hs : S[id]? = some (.cells cs)) (hcs : cs ≠ []) (hc : cs.length = n * sz) (hY : aCells sz Y S = some (ds, m)) (hm : m ≠ 0) (hd : 0 < ds.length) (b : n + m ≤ 100000000) :
    aAppendOwn P t t2 (.ref sz id 0 n false) Y S = some (.ref sz S.length 0 (n + m) false, S.set id (.cells []) ++ [.cells (cs ++ ds)]) := by
  have hmm : (n + m) * by_ ≤ 100000000 * 1000 := Nat.mul_le_mul b hby
  have hml : n + m ≤ maxLen := by unfold maxLen; omega
  unfold appOk at hok
  split at hok
  rotate_left
  · cases hok
  rename_i e hu
  simp only [Bool.and_eq_true] at hok
  obtain ⟨⟨⟨hs', hb⟩, hn'⟩, hz⟩ := hok
  cases hs2 : szT P e with
  | none => rw [hs2] at hs'; cases hs'
  | some s' =>
  rw [hs2] at hs'; simp at hs'; subst hs'
  cases hb' : bytesT P e with
  | none => rw [hb'] at hb; cases hb
  | some b' =>
  rw [hb'] at hb; simp at hb; subst hb
  cases hz' : zeroT P e with
  | none => rw [hz'] at hz; cases hz
  | some z =>
  rw [hz'] at hz; simp only [Bool.and_eq_true, beq_iff_eq] at hz
  have hnil : aAppendNil P t t2 (.ref s' id 0 n false) Y S = false := by
    unfold aAppendNil
    simp only [hu, hs2, hY]
    simp [hm]
  have htk : cs.take (n * s') = cs := List.take_of_length_le (by omega)
  unfold aAppendOwn
  rw [if_neg (by rw [hnil]; simp)]
  unfold aAppendRef
  simp only [hu, hs2, hb', hz', hY, hs]
  rw [if_pos ⟨hn', hz.1, hz.2⟩]
  rw [if_pos ⟨by trivial, by trivial, by omega, hml, by omega, hd, hcs⟩, htk]
end Go.Hb
namespace Go.Hb
open Go
/-- There a row of the call's own lies. -/
def Live {α : Type} [Enc α] (D : List AObj) (d : Nat) (l : List α) : Prop := D[d]? = some (.cells (rowCs l)) ∧ l ≠ []
theorem rowCs_ne {α : Type} [Enc α] (hsz : 0 < Enc.sz α) {l : List α} (h : l ≠ []) : rowCs l ≠ [] := by
  intro e
  have := rowCs_len l
  rw [e, List.length_nil] at this
  rcases Nat.mul_eq_zero.1 this.symm with h1 | h1
  · exact h (List.length_eq_zero_iff.1 h1)
  · omega
theorem rowR_app0 {α : Type} [Enc α] {P : Program} {t t2 : TypeId} {by_ : Nat} (hok : appOk P t t2 (Enc.sz α) by_ = true) (hsz : 0 < Enc.sz α) (hby : by_ ≤ 1000) {s D : List AObj} {d : Nat} {x : LV} {l : List α}
    (hr : RowR (s ++ D) (Enc.sz α) l.length (rowCs l) x (s.length + d)) (hd : l ≠ [] → d < D.length) (a : α) (b : l.length + 1 ≤ 100000000) :
    ∃ D', (∀ r, aAppendOwn P t t2 x (.imm (Enc.sz α) 1 (Enc.enc a) r) (s ++ D) = some (.ref (Enc.sz α) (s.length + D.length) 0 (l.length + 1) false, s ++ D')) ∧
      RowR (s ++ D') (Enc.sz α) (l ++ [a]).length (rowCs (l ++ [a])) (.ref (Enc.sz α) (s.length + D.length) 0 (l.length + 1) false) (s.length + D.length) ∧ D.length < D'.length ∧ Live D' D.length (l ++ [a]) := by
  have ha := own_app (P := P) (t := t) (t2 := t2) hok hsz hby hr (Enc.len a) b
  have e : (if l.length = 0 then s ++ D else (s ++ D).set (s.length + d) (.cells [])) ++ [AObj.cells (rowCs l ++ Enc.enc a)] = s ++ ((if l.length = 0 then D else D.set d (.cells [])) ++ [AObj.cells (rowCs (l ++ [a]))]) := by
    have e2 : rowCs (l ++ [a]) = rowCs l ++ Enc.enc a := by rw [rowCs_app, rowCs_cons]; simp
    rw [e2]
    split
    · simp
    · rename_i h0
      rw [set_app]
      simp
  have hl : (if l.length = 0 then D else D.set d (.cells [])).length = D.length := by split <;> simp
  have hlive : Live ((if l.length = 0 then D else D.set d (.cells [])) ++ [AObj.cells (rowCs (l ++ [a]))]) D.length (l ++ [a]) := ⟨by rw [List.getElem?_append_right (by omega), hl]; simp, by simp⟩
  refine ⟨_, fun r => ?_, .inr ⟨by simp, rowCs_ne hsz (by simp), by simp, ?_, by rw [rowCs_len]⟩, ?_, hlive⟩
  · rw [ha r, e, List.length_append]
  · rw [get_app]; exact hlive.1
  · rw [List.length_append, hl]; simp
theorem live_app0 {α : Type} [Enc α] {P : Program} {t t2 : TypeId} {by_ : Nat} (hok : appOk P t t2 (Enc.sz α) by_ = true) (hsz : 0 < Enc.sz α) (hby : by_ ≤ 1000) {s D : List AObj} {d : Nat} {l l2 : List α} (h : Live D d l) (h2 : l2 ≠ [])
    (b : l.length + l2.length ≤ 100000000) : ∃ D', (∀ Y, aCells (Enc.sz α) Y (s ++ D) = some (rowCs l2, l2.length) → aAppendOwn P t t2 (.ref (Enc.sz α) (s.length + d) 0 l.length false) Y (s ++ D) = some (.ref (Enc.sz α) (s.length + D.length) 0 (l ++ l2).length false, s ++ D')) ∧
      Live D' D.length (l ++ l2) ∧ D'.length = D.length + 1 ∧ ∀ j, j ≠ d → j < D.length → D'[j]? = D[j]? := by
  obtain ⟨h1, hl⟩ := h
  have hd := (List.getElem?_eq_some_iff.1 h1).1
  have hn : l.length ≠ 0 := fun e => hl (List.length_eq_zero_iff.1 e)
  have hm : l2.length ≠ 0 := fun e => h2 (List.length_eq_zero_iff.1 e)
  refine ⟨D.set d (.cells []) ++ [.cells (rowCs (l ++ l2))], fun Y hY => ?_, ⟨?_, by simp [hl]⟩, by simp, fun j hj hjl => ?_⟩
  · rw [own_app2 (P := P) (t := t) (t2 := t2) hok hby hn (by rw [get_app]; exact h1) (rowCs_ne hsz hl) (rowCs_len l) hY hm (by rw [rowCs_len]; exact Nat.mul_pos (by omega) hsz) b, set_app, rowCs_app, List.length_append, List.length_append]
    simp
  · rw [List.getElem?_append_right (by simp)]; simp
  · rw [List.getElem?_append_left (by simpa using hjl), List.getElem?_set_ne (fun e => hj e.symm)]
/-- Likewise behind one object more. -/
theorem live_app1 {α : Type} [Enc α] {P : Program} {t t2 : TypeId} {by_ : Nat} (hok : appOk P t t2 (Enc.sz α) by_ = true) (hsz : 0 < Enc.sz α) (hby : by_ ≤ 1000) {s D : List AObj} {o : AObj} {d : Nat} {l l2 : List α} (h : Live D d l) (h2 : l2 ≠ [])
    (b : l.length + l2.length ≤ 100000000) : ∃ D', (∀ Y, aCells (Enc.sz α) Y (s ++ (o :: D)) = some (rowCs l2, l2.length) → aAppendOwn P t t2 (.ref (Enc.sz α) (s.length + (d + 1)) 0 l.length false) Y (s ++ (o :: D)) = some (.ref (Enc.sz α) (s.length + (D.length + 1)) 0 (l ++ l2).length false, s ++ (o :: D'))) ∧
      Live D' D.length (l ++ l2) ∧ D'.length = D.length + 1 ∧ ∀ j, j ≠ d → j < D.length → D'[j]? = D[j]? := by
  obtain ⟨D', h3, h4, h5, h6⟩ := live_app0 (P := P) (t := t) (t2 := t2) hok hsz hby (s := s ++ [o]) (D := D) h h2 b
  refine ⟨D', fun Y hY => ?_, h4, h5, h6⟩
  have := h3 Y (by simpa using hY)
  have e1 : (s ++ [o]).length + d = s.length + (d + 1) := by simp; omega
  have e2 : (s ++ [o]).length + D.length = s.length + (D.length + 1) := by simp; omega
  rw [e1, e2] at this
  simpa using this
def LiveN (D : List AObj) (d n : Nat) (l : List UInt8) (B : Nat) : Prop := (Live D d l ∧ l.length = n) ∧ n ≤ B
theorem LiveN.eq {D : List AObj} {d n : Nat} {l l' : List UInt8} {B B' : Nat} (h : LiveN D d n l B) (e : l = l') (hb : B ≤ B') : LiveN D d n l' B' := by subst e; exact ⟨h.1, Nat.le_trans h.2 hb⟩
theorem LiveN.box {D : List AObj} {d n : Nat} {l : List UInt8} {B : Nat} (h : LiveN D d n l B) (E : List AObj) : LiveN (D ++ E) d n l B :=
  ⟨⟨⟨by rw [List.getElem?_append_left (List.getElem?_eq_some_iff.1 h.1.1.1).1]; exact h.1.1.1, h.1.1.2⟩, h.1.2⟩, h.2⟩
theorem LiveN.lt {D : List AObj} {d n : Nat} {l : List UInt8} {B : Nat} (h : LiveN D d n l B) : d < D.length := (List.getElem?_eq_some_iff.1 h.1.1.1).1
theorem live_push {P : Program} {t t2 : TypeId} (hok : appOk P t t2 1 1 = true) (s : List AObj) (o : AObj) {D : List AObj} {d n B B2 : Nat} {l l2 : List UInt8} (hl : LiveN D d n l B) (h2 : l2 ≠ []) (hl2 : l2.length ≤ B2) (b : B + B2 ≤ 90000000) :
    ∃ D' d' n', (∀ Y, aCells 1 Y (s ++ (o :: D)) = some (rowCs l2, l2.length) → aAppendOwn P t t2 (.ref 1 (s.length + (d + 1)) 0 n false) Y (s ++ (o :: D)) = some (.ref 1 (s.length + (d' + 1)) 0 n' false, s ++ (o :: D'))) ∧ LiveN D' d' n' (l ++ l2) (B + B2) ∧ (D.length ≤ d' ∧ d' < D'.length) ∧ ∀ j, j ≠ d → j < D.length → D'[j]? = D[j]? := by
  obtain ⟨⟨h, rfl⟩, hb⟩ := hl
  obtain ⟨D', h3, h4, h5, h6⟩ := live_app1 (P := P) (t := t) (t2 := t2) (α := UInt8) (by_ := 1) hok (by simp) (by omega) (s := s) (o := o) h h2 (by omega)
  exact ⟨D', D.length, (l ++ l2).length, h3, ⟨⟨h4, rfl⟩, by rw [List.length_append]; omega⟩, ⟨Nat.le_refl _, by omega⟩, h6⟩
/-- A call that hands on a row, which is put behind the own one. -/
theorem callO {P : Program} {t t2 : TypeId} (hok : appOk P t t2 1 1 = true) {f : FuncId} {args : List LV} {s D : List AObj} {o : AObj} {d n B B2 : Nat} {v : List Nat} {l l2 : List UInt8} {K : LV → List AObj → List Nat → Prop}
    (h : PureC P f args (row l2)) (hl : LiveN D d n l B) (h2 : l2 ≠ []) (hl2 : l2.length ≤ B2) (b : B + B2 ≤ 90000000)
    (k : ∀ v2 D' d' n', v <+: v2 → aAppendOwn P t t2 (.ref 1 (s.length + (d + 1)) 0 n false) (row l2) (s ++ (o :: D)) = some (.ref 1 (s.length + (d' + 1)) 0 n' false, s ++ (o :: D')) → LiveN D' d' n' (l ++ l2) (B + B2) → (D.length ≤ d' ∧ d' < D'.length) → (∀ j, j ≠ d → j < D.length → D'[j]? = D[j]?) → K (row l2) (s ++ (o :: D)) v2) : aCalls P f args (s ++ (o :: D)) v K :=
  callC h fun v2 hv2 => by
    obtain ⟨D', d', n', h3, h4, h5, h6⟩ := live_push hok s o hl h2 hl2 b
    exact k v2 D' d' n' hv2 (h3 (row l2) (by rw [aCells_row]; simp)) h4 h5 h6
end Go.Hb
namespace Go.Hb
open Go
theorem aWs_frz1 {P : Program} {r : Option Nat} {N : Nat} {own : Bool} {id' : Nat} {c y : Code} {Q : Exit → St → Prop} {tk : TokQ y Q} {t : Nat → LV} {s s' : List AObj} {v : List Nat} (id : Nat) (cs : List LV) (j : Nat) (X : LV) (hs : s[id]? = some (.cells cs)) (hne : cs ≠ []) (hj : Frz id cs (t j) X) (he : s.set id (.cells []) = s') (h : aWs P r N own id' c y Q tk ⟨upd j X t, s', v⟩) : aWs P r N own id' c y Q tk ⟨t, s, v⟩ :=
  aWs_frz id cs hs hne (fun i => by
    unfold upd
    split
    · rename_i e; subst e; exact hj
    · exact Frz.refl _ _ _) he h
end Go.Hb
end

