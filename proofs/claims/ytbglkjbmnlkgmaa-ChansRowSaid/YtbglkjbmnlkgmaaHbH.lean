import Derived.Test.YtbglkjbmnlkgmaaHbG
namespace Go.Hb
open Go Go.RowKit

/-! ### what a slice or string holds -/
def strCells (b : ByteArray) : List LV := b.data.toList.map fun c => .int .u8 (c.toNat : Int)

def aCells (size : Nat) (x : LV) (s : List AObj) : Option (List LV × Nat) := match x with
  | .nils => some ([], 0)
  | .emp sz => if sz = size then some ([], 0) else none
  | .imm sz len cs _ => if sz = size then some (cs, len) else none
  | .ref sz id off len _ => if sz = size then match s[id]? with
    | some (.cells cs) => if off + len * sz ≤ cs.length then some ((cs.drop off).take (len * sz), len) else none
    | _ => none else none
  | .str b => if size = 1 then some (strCells b, b.size) else none
  | _ => none

theorem strCells_rel (C : Ctx) : ∀ (l : List UInt8), RelVs C (l.map fun c => LV.int .u8 (c.toNat : Int)) (l.map fun c => Value.int .u8 (c.toNat : Int)) := by
  intro l
  induction l with
  | nil => simp [RelVs]
  | cons a l ih => exact ⟨_, _, rfl, by simp [RelV], ih⟩

theorem aCells_sound {P : Program} {C : Ctx} {s : List AObj} {size n : Nat} {x : LV} {v : Value} {cs : List LV} (hok : Ok C s) (hx : RelV C x v) (h : aCells size x s = some (cs, n)) :
    ∃ us : List Value, RelVs C cs us ∧ (∀ u ∈ us, u.oneCell' = true) ∧ us.length = n * size ∧ ∀ w' : World, w'.heap = C.w.heap → (Builtin.lenOf v).run P w' = .ok n w' ∧ (Builtin.firstCells size n v).run P w' = .ok us.toArray w' := by
  cases x <;> simp only [aCells] at h <;> try (cases h; done)
  case nils =>
    simp at h; obtain ⟨rfl, rfl⟩ := h
    simp only [RelV] at hx; subst hx
    exact ⟨[], rfl, by simp, by simp, fun w' _ => ⟨by simp [Builtin.lenOf], by simp [Builtin.firstCells]⟩⟩
  case emp sz =>
    split at h
    · simp at h; obtain ⟨rfl, rfl⟩ := h
      simp only [RelV] at hx; obtain ⟨a, cap, rfl, _⟩ := hx
      exact ⟨[], rfl, by simp, by simp, fun w' _ => ⟨by simp [Builtin.lenOf], by simp [Builtin.firstCells, loadCells, loadCellsFrom]⟩⟩
    · cases h
  case imm sz len cs' r =>
    split at h
    · rename_i e
      simp at h; obtain ⟨rfl, rfl⟩ := h
      subst e
      simp only [RelV] at hx
      obtain ⟨A, cap, rfl, k1, k2, k3, k4, k5, k6, k7⟩ := hx
      cases A with
      | none =>
        have := (k4 rfl).1
        subst this
        have : cs' = [] := by apply List.eq_nil_of_length_eq_zero; simpa using k3
        subst this
        exact ⟨[], rfl, by simp, by simp, fun w' _ => ⟨by simp [Builtin.lenOf], by simp [Builtin.firstCells]⟩⟩
      | some a =>
        obtain ⟨b, o, sp⟩ := a
        have := k5 _ rfl; simp at this; subst this
        obtain ⟨us, q1, q2, q3⟩ := (k6 b o rfl).get
        have hl := q1.length
        refine ⟨us, q1, q2, by omega, fun w' hw => ⟨by simp [Builtin.lenOf], ?_⟩⟩
        have := run_loadCells_list (P := P) w' ⟨b, o, none⟩ us (fun j v hv => by
          rw [add_plain]
          have := q3 j v hv
          simpa [World.cell?, hw] using this)
        simp only [Builtin.firstCells]
        rw [show len * sz = us.length from by omega]
        exact this
    · cases h
  case ref sz id off len full =>
    split at h
    · rename_i e
      subst e
      split at h
      · rename_i cs' hs
        split at h
        · rename_i hle
          simp at h; obtain ⟨rfl, rfl⟩ := h
          simp only [RelV] at hx
          obtain ⟨h0, cap, rfl, k1, k2, k3⟩ := hx
          obtain ⟨vs, T', us, ws, h1, h2, h3, h4⟩ := hok.obj id _ hs
          have hl := h3.length
          have hl2 : ((us.drop off).take (len * sz)).length = len * sz := by simp; omega
          refine ⟨(us.drop off).take (len * sz), (h3.drop off).take _, fun u hu => h4 u (List.mem_of_mem_drop (List.mem_of_mem_take hu)), hl2, fun w' hw => ⟨by simp [Builtin.lenOf], ?_⟩⟩
          have := run_loadCells_list (P := P) w' ⟨C.ρ id, off, none⟩ ((us.drop off).take (len * sz)) (fun j v hv => by
            rw [add_plain]
            have hj : j < len * sz := by
              rcases Nat.lt_or_ge j (len * sz) with h' | h'
              · exact h'
              · rw [List.getElem?_eq_none (by omega)] at hv; cases hv
            rw [List.getElem?_take_of_lt hj, List.getElem?_drop] at hv
            simp only [World.cell?, hw, h1]
            have : vs.toList[off + j]? = some v := by rw [h2, List.getElem?_append_left (by omega)]; exact hv
            simpa using this)
          rw [hl2] at this
          simp only [Builtin.firstCells]
          exact this
        · cases h
      · cases h
    · cases h
  case str b =>
    split at h
    · rename_i e
      subst e
      simp at h; obtain ⟨rfl, rfl⟩ := h
      simp only [RelV] at hx; subst hx
      refine ⟨b.data.toList.map (fun c : UInt8 => Value.int .u8 (c.toNat : Int)), strCells_rel C b.data.toList, ?_, ?_, fun w' _ => ⟨by simp [Builtin.lenOf], ?_⟩⟩
      · intro u hu; simp at hu; obtain ⟨a, _, rfl⟩ := hu; rfl
      · simp
      · simp only [Builtin.firstCells, Sem.run_pure]
        have : (b.extract 0 b.size) = b := by simp
        rw [this]
        congr 1
        apply Array.ext'; simp
    · cases h

/-! ### append: the run -/
theorem run_append_grows' {P : Program} {w : World} (t t2 ty e : TypeId) (i : TypeInfo) (z : Value) (ht : P.underlying t = some (.slice e)) (d2 : TypeDesc) (ht2 : P.underlying t2 = some d2) (hd2 : ∀ k, d2 ≠ .int k)
    (hi : P.info? e = some i) (hz : i.zero = some z) (A : Option Addr) (n cap : Nat) (olds news : Array Value) (m : Nat) (x : Value)
    (hold : ∀ w' : World, w'.heap = w.heap → (Builtin.firstCells i.size n (.slice A n cap)).run P w' = .ok olds w')
    (hnew : ∀ w' : World, w'.heap = w.heap → (Builtin.lenOf x).run P w' = .ok m w' ∧ (Builtin.firstCells i.size m x).run P w' = .ok news w')
    (hg : cap < n + m) (h63 : n + m ≤ maxLen) (hb : (n + m) * i.bytes ≤ 140737488355328) :
    (Builtin.append_ #[t, t2] ty #[.slice A n cap, x]).run P w =
      .ok (.slice (some ⟨w.heap.size, 0, none⟩) (n + m) (grownCap w (n + m) cap e)) (w.drew.alloc (.cells (olds ++ news ++ Builtin.zeroCells z.cells (grownCap w (n + m) cap e - (n + m))) e)) := by
  have hn : ¬ (n + m ≤ cap) := by omega
  have h63' : ¬ (9223372036854775807 < ((n : Int) + (m : Int))) := by simp only [maxLen] at h63; omega
  have h48' : ¬ (281474976710656 < Builtin.nextslicecap (n + m) cap * i.bytes) := by have := growslice_fits hg hb; omega
  have ho := hold w.drew rfl
  have hn1 := hnew w rfl
  have hn2 := hnew w.drew rfl
  simp [Builtin.append_, run_underlying ht, run_underlying ht2, sizeOf, typeInfo, zeroValue, hi, hz, hn, h63', h48', Question.forced, ho, hn1.1, hn2.2, newRow, grownCap]


theorem run_append_room' {P : Program} {w : World} (t t2 ty e : TypeId) (i : TypeInfo) (ht : P.underlying t = some (.slice e)) (d2 : TypeDesc) (ht2 : P.underlying t2 = some d2) (hd2 : ∀ k, d2 ≠ .int k)
    (hi : P.info? e = some i) (A : Option Addr) (n cap : Nat) (news : Array Value) (m : Nat) (x : Value)
    (hnew : ∀ w' : World, w'.heap = w.heap → (Builtin.lenOf x).run P w' = .ok m w' ∧ (Builtin.firstCells i.size m x).run P w' = .ok news w')
    (hg : n + m ≤ cap) (w2 : World) (hst : ∀ a, A = some a → (storeCells (a.add (n * i.size)) news.toList).run P w = .ok () w2) (hno : A = none → w2 = w) :
    (Builtin.append_ #[t, t2] ty #[.slice A n cap, x]).run P w = .ok (.slice A (n + m) cap) w2 := by
  have hn1 := hnew w rfl
  cases A with
  | none =>
    have := hno rfl; subst this
    simp [Builtin.append_, run_underlying ht, run_underlying ht2, sizeOf, typeInfo, hi, hg, hn1.1, hn1.2]
  | some a =>
    have := hst a rfl
    simp [Builtin.append_, run_underlying ht, run_underlying ht2, sizeOf, typeInfo, hi, hg, hn1.1, hn1.2, this]
end Go.Hb
