import Derived.Test.YtbglkjbmnlkgmaaHbJ
namespace Go.Hb
open Go Go.RowKit

/-! ### literals -/
def aFill (place : Nat → Option (Nat × Nat)) (cells : List LV) : List (Nat × LV) → Option (List LV)
  | [] => some cells
  | (i, x) :: rest => match place i with
    | none => none
    | some (off, size) => if x.cellsOk = true ∧ x.cells.length = size ∧ off + size ≤ cells.length then aFill place (setAt cells off x.cells) rest else none

theorem fillStep_rel {C : Ctx} (off : Nat) : ∀ (xs cs : List LV) (l : List Value) (k : Nat) (vs : Array Value), RelVs C cs vs.toList → RelVs C xs l → (∀ u ∈ vs, u.oneCell' = true) → (∀ u ∈ l, u.oneCell' = true) →
    RelVs C (setAt cs (off + k) xs) ((l.zipIdx k).foldl (fun cs (c, j) => cs.setIfInBounds (off + j) c) vs).toList ∧ (∀ u ∈ (l.zipIdx k).foldl (fun cs (c, j) => cs.setIfInBounds (off + j) c) vs, u.oneCell' = true) ∧
    ((l.zipIdx k).foldl (fun cs (c, j) => cs.setIfInBounds (off + j) c) vs).size = vs.size := by
  intro xs
  induction xs with
  | nil => intro cs l k vs h1 h2 h3 _; simp [RelVs] at h2; subst h2; exact ⟨h1, h3, rfl⟩
  | cons x xs ih =>
    intro cs l k vs h1 h2 h3 h4
    obtain ⟨v, r, rfl, h5, h6⟩ := h2
    have := ih (cs.set (off + k) x) r (k + 1) (vs.setIfInBounds (off + k) v) (by rw [Array.toList_setIfInBounds]; exact h1.set h5) h6 (fun u hu => by
      rcases Array.mem_or_eq_of_mem_setIfInBounds hu with h | h
      · exact h3 u h
      · subst h; exact h4 _ (by simp)) (fun u hu => h4 u (by simp [hu]))
    simp only [List.zipIdx_cons, List.foldl_cons, setAt]
    simpa [Nat.add_assoc] using this

theorem aFill_sound {C : Ctx} {place : Nat → Option (Nat × Nat)} : ∀ (parts : List (Nat × LV)) (pv : List (Nat × Value)) (cells out : List LV) (vs : Array Value), RelVs C cells vs.toList → (∀ u ∈ vs, u.oneCell' = true) →
    (parts.map (·.1) = pv.map (·.1)) → RelVs C (parts.map (·.2)) (pv.map (·.2)) → aFill place cells parts = some out → ∃ ws : Array Value, Instr.fill place vs pv = some ws ∧ RelVs C out ws.toList ∧ ∀ u ∈ ws, u.oneCell' = true := by
  intro parts
  induction parts with
  | nil =>
    intro pv cells out vs h1 h2 h3 h4 h5
    have : pv = [] := by cases pv with | nil => rfl | cons => simp at h3
    subst this
    simp [aFill] at h5; subst h5
    exact ⟨vs, rfl, h1, h2⟩
  | cons p parts ih =>
    intro pv cells out vs h1 h2 h3 h4 h5
    obtain ⟨i, x⟩ := p
    cases pv with
    | nil => simp at h3
    | cons q pv =>
      obtain ⟨j, v⟩ := q
      simp only [List.map_cons, List.cons.injEq] at h3
      obtain ⟨rfl, h3⟩ := h3
      obtain ⟨v', r', e, h6, h7⟩ := h4
      simp only [List.map_cons, List.cons.injEq] at e
      obtain ⟨rfl, rfl⟩ := e
      simp only [aFill] at h5
      split at h5
      · cases h5
      · rename_i off size hp
        split at h5
        · rename_i hc
          obtain ⟨c1, c2, c3⟩ := hc
          obtain ⟨k1, k2⟩ := cellsOk_rel c1 h6
          have hl := k1.length
          have hl1 := h1.length
          simp at hl hl1
          have hs := fillStep_rel (C := C) off x.cells cells v.cells.toList 0 vs h1 k1 h2 k2
          simp only [Nat.add_zero] at hs
          obtain ⟨ws, w1, w2, w3⟩ := ih pv _ out _ hs.1 hs.2.1 h3 h7 h5
          refine ⟨ws, ?_, w2, w3⟩
          simp only [Instr.fill, hp]
          have g1 : ¬ (v.cells.size ≠ size) := by omega
          have g2 : ¬ (off + v.cells.size > vs.size) := by omega
          have e1 : (v.cells.zipIdx.foldl (fun cs (x : Value × Nat) => cs.setIfInBounds (off + x.2) x.1) vs) = ((v.cells.toList.zipIdx 0).foldl (fun cs (c, j) => cs.setIfInBounds (off + j) c) vs) := by
            rw [← Array.foldl_toList]; simp [Array.toList_zipIdx]
          simp only [g1, g2, decide_false, Bool.or_self, Bool.false_eq_true, if_false]
          rw [← w1]
          congr 1
        · cases h5

/-- Where the parts of a struct or an array lie. -/
def placeT (P : Program) (t : TypeId) (i : Nat) : Option (Nat × Nat) := match P.underlying t with
  | some (.struct fs) => fs[i]?.bind fun f => (szT P f.type).map fun n => (f.offset, n)
  | some (.array _ e) => (szT P e).map fun n => (i * n, n)
  | _ => none

/-- Does a struct's build find all sizes? -/
def sizesT (P : Program) (t : TypeId) : Bool := match P.underlying t with
  | some (.struct fs) => fs.toList.all fun f => (szT P f.type).isSome
  | some (.array _ e) => (szT P e).isSome
  | _ => false

def aBuild (P : Program) (t : TypeId) (parts : List (Nat × LV)) : Option LV := match zeroT P t with
  | some z => if sizesT P t = true ∧ z.cellsOk = true then (aFill (placeT P t) z.cells parts).map .agg else none
  | none => none

theorem mapM_places {P : Program} (w : World) : ∀ (fs : List Field), (fs.all fun f => (szT P f.type).isSome) = true →
    (fs.mapM (fun f => do pure (f.offset, ← sizeOf f.type)) : Sem (List (Nat × Nat))).run P w = .ok (fs.map fun f => (f.offset, (szT P f.type).getD 0)) w := by
  intro fs
  induction fs with
  | nil => intro _; rfl
  | cons f fs ih =>
    intro h
    simp only [List.all_cons, Bool.and_eq_true] at h
    obtain ⟨n, hn⟩ := Option.isSome_iff_exists.1 h.1
    simp only [List.mapM_cons, Sem.run_bind, run_sizeOf hn, Result.andThen_ok, Sem.run_pure, ih h.2, List.map_cons, hn, Option.getD_some]

theorem aBuild_sound {P : Program} {C : Ctx} {s : List AObj} {t : TypeId} {parts : List (Nat × LV)} {pv : Array (Nat × Value)} {y : LV} (hok : Ok C s) (h1 : parts.map (·.1) = pv.toList.map (·.1)) (h2 : RelVs C (parts.map (·.2)) (pv.toList.map (·.2)))
    (h : aBuild P t parts = some y) : Runs P C (Instr.build t pv) y s C.τ := by
  unfold aBuild at h
  split at h
  · rename_i z hz
    split at h
    · rename_i hc
      obtain ⟨hc1, hc2⟩ := hc
      simp only [Option.map_eq_some_iff] at h
      obtain ⟨out, hf, rfl⟩ := h
      obtain ⟨zv, hzr, hzx⟩ := run_zero hz C
      obtain ⟨k1, k2⟩ := cellsOk_rel hc2 hzx
      obtain ⟨ws, w1, w2, w3⟩ := aFill_sound parts pv.toList z.cells out zv.cells k1 (by simpa using k2) h1 h2 hf
      refine Runs.quiet hok (u := .agg ws) (by simp only [RelV]; exact ⟨ws, rfl, w2, w3⟩) ?_
      unfold sizesT at hc1
      unfold Instr.build
      simp only [Sem.run_bind, hzr, Result.andThen_ok]
      cases hu : P.underlying t with
      | none => simp [hu] at hc1
      | some d =>
        simp only [run_underlying hu, Result.andThen_ok]
        cases d <;> simp only [hu] at hc1 <;> try (cases hc1; done)
        · rename_i len e
          obtain ⟨n, hn⟩ := Option.isSome_iff_exists.1 hc1
          have e1 : (fun i => some (i * n, n)) = placeT P t := by funext i; simp [placeT, hu, hn]
          simp only [Sem.run_bind, run_sizeOf hn, Result.andThen_ok, e1, w1, Sem.run_pure]
        · rename_i fs
          have hm := mapM_places (P := P) C.w fs.toList hc1
          have e1 : (fs.toList.map fun f => (f.offset, (szT P f.type).getD 0)).toArray = fs.map fun f => (f.offset, (szT P f.type).getD 0) := by apply Array.ext'; simp
          have hm2 : (fs.mapM (fun f => do pure (f.offset, ← sizeOf f.type)) : Sem (Array (Nat × Nat))).run P C.w = .ok (fs.map fun f => (f.offset, (szT P f.type).getD 0)) C.w := by
            rw [Array.mapM_eq_mapM_toList]
            simp only [Sem.run_map, hm, Result.andThen_ok, e1]
          have e2 : (fun i => (fs.map fun f => (f.offset, (szT P f.type).getD 0))[i]?) = placeT P t := by
            funext i
            simp only [placeT, hu, Array.getElem?_map]
            cases hfi : fs[i]? with
            | none => rfl
            | some f =>
              have hmem : f ∈ fs.toList := by simpa using Array.mem_of_getElem? hfi
              obtain ⟨n, hn⟩ := Option.isSome_iff_exists.1 (List.all_eq_true.1 hc1 f hmem)
              simp [hn]
          simp only [Sem.run_bind, hm2, Result.andThen_ok, e2, w1, Sem.run_pure]
    · cases h
  · cases h

/-! ### slices of literals; make -/
def zeros (z : List LV) (n : Nat) : List LV := (List.replicate n z).flatten

theorem zeros_rel {C : Ctx} {z : List LV} {zv : Array Value} (h : RelVs C z zv.toList) : ∀ n, RelVs C (zeros z n) (List.replicate n zv.toList).flatten := by
  intro n
  induction n with
  | zero => simp [zeros, RelVs]
  | succ n ih =>
    simp only [zeros, List.replicate_succ, List.flatten_cons]
    exact h.app ih

theorem flatten_get {α : Type} (l : List α) (hl : l ≠ []) : ∀ (n i : Nat), i < n * l.length → (List.replicate n l).flatten[i]? = l[i % l.length]? := by
  intro n
  induction n with
  | zero => intro i h; simp at h
  | succ n ih =>
    intro i h
    have hpos : 0 < l.length := by cases l with | nil => exact absurd rfl hl | cons => simp
    simp only [List.replicate_succ, List.flatten_cons]
    by_cases hi : i < l.length
    · rw [List.getElem?_append_left hi, Nat.mod_eq_of_lt hi]
    · rw [List.getElem?_append_right (by omega), ih (i - l.length) (by rw [Nat.add_mul] at h; omega)]
      have e : i % l.length = (i - l.length) % l.length := Nat.mod_eq_sub_mod (by omega)
      rw [e]

theorem range_zeros (zv : Array Value) (n : Nat) : ((Array.range (n * zv.size)).map (fun i => zv[i % zv.size]!)).toList = (List.replicate n zv.toList).flatten := by
  by_cases hz : zv = #[]
  · subst hz
    simp
  · have hne : zv.toList ≠ [] := by simpa using hz
    have hpos : 0 < zv.size := by rcases Nat.eq_zero_or_pos zv.size with h | h; · exact absurd (Array.eq_empty_of_size_eq_zero h) hz
                                  · exact h
    apply List.ext_getElem?
    intro i
    by_cases hi : i < n * zv.size
    · rw [flatten_get _ hne n i (by simpa using hi)]
      have hm : i % zv.size < zv.size := Nat.mod_lt _ hpos
      simp [hi, hm]
    · rw [List.getElem?_eq_none (by simpa using hi), List.getElem?_eq_none (by simp; omega)]

theorem zeros_length (z : List LV) (n : Nat) : (zeros z n).length = n * z.length := by
  induction n with
  | zero => simp [zeros]
  | succ n ih => simp only [zeros] at ih ⊢; simp [List.replicate_succ, Nat.add_mul]; omega

def aBuildSlice (P : Program) (t : TypeId) (len : Nat) (parts : List (Nat × LV)) : Option LV := match P.underlying t with
  | some (.slice e) => match szT P e, zeroT P e with
    | some n, some z => if len = 0 then (match parts with | [] => some (.imm n 0 [] .full) | _ => none) else if z.cellsOk = true ∧ z.cells.length = n ∧ len * n ≤ 2 ^ 24 ∧ len * n ≠ 0 then
        (aFill (fun i => some (i * n, n)) (zeros z.cells len) parts).map fun cs => .imm n len cs .full else none
    | _, _ => none
  | _ => none

theorem setAt_len (xs cs : List LV) (off : Nat) : (setAt cs off xs).length = cs.length := setAt_length xs cs off

theorem aFill_length {place : Nat → Option (Nat × Nat)} : ∀ (parts : List (Nat × LV)) (cs out : List LV), aFill place cs parts = some out → out.length = cs.length := by
  intro parts
  induction parts with
  | nil => intro cs out h; simp [aFill] at h; rw [h]
  | cons p parts ih =>
    intro cs out h
    simp only [aFill] at h
    split at h
    · cases h
    · split at h
      · rw [ih _ _ h, setAt_length]
      · cases h

theorem aBuildSlice_sound {P : Program} {C : Ctx} {s : List AObj} {t : TypeId} {len : Nat} {parts : List (Nat × LV)} {pv : Array (Nat × Value)} {y : LV} (hok : Ok C s) (h1 : parts.map (·.1) = pv.toList.map (·.1)) (h2 : RelVs C (parts.map (·.2)) (pv.toList.map (·.2)))
    (h : aBuildSlice P t len parts = some y) : Runs P C (Instr.buildSlice t len pv) y s C.τ := by
  unfold aBuildSlice at h
  split at h
  · rename_i e hu
    split at h
    · rename_i n z hn hz
      split at h
      · rename_i hl0
        subst hl0
        split at h
        · simp only [Option.some.injEq] at h; subst h
          have hpv : pv = #[] := by
            apply Array.ext'
            cases hpl : pv.toList with
            | nil => rfl
            | cons a l => rw [hpl] at h1; simp at h1
          subst hpv
          refine ⟨C.row #[] e, .slice (some ⟨C.w.heap.size, 0, none⟩) 0 0, hok.le_row _ _, hok.row _ _, rfl, ?_, ?_⟩
          · simp only [RelV]
            exact ⟨some ⟨C.w.heap.size, 0, none⟩, 0, rfl, Nat.le_refl _, Nat.zero_le _, by simp, (by intro h; cases h), fun a ha => by cases ha; rfl, fun b o hb => by simp [RelCs], by simp [RelR]⟩
          · have hr0 : Array.range 0 = #[] := rfl
            simp [Instr.buildSlice, run_underlying hu, run_sizeOf hn, Instr.fill, newRow, Ctx.row, hr0]
        · cases h
      · have hc : z.cellsOk = true ∧ z.cells.length = n ∧ len * n ≤ 2 ^ 24 ∧ len * n ≠ 0 := by
          by_cases hc : z.cellsOk = true ∧ z.cells.length = n ∧ len * n ≤ 2 ^ 24 ∧ len * n ≠ 0
          · exact hc
          · rw [if_neg hc] at h; cases h
        rw [if_pos hc] at h
        obtain ⟨hc1, hc2, hc3, hc4⟩ := hc
        simp only [Option.map_eq_some_iff] at h
        obtain ⟨out, hf, rfl⟩ := h
        obtain ⟨zv, hzr, hzx⟩ := run_zero hz C
        obtain ⟨k1, k2⟩ := cellsOk_rel hc1 hzx
        have kl := k1.length
        simp at kl
        have hzs : zv.cells.size = n := by omega
        have hrow : RelVs C (zeros z.cells len) ((Array.range (len * n)).map (fun i => zv.cells[i % zv.cells.size]!)).toList := by
          rw [← hzs, range_zeros]; exact zeros_rel k1 len
        have hone : ∀ u ∈ (Array.range (len * n)).map (fun i => zv.cells[i % zv.cells.size]!), u.oneCell' = true := by
          intro u hu
          have hu' := Array.mem_toList_iff.2 hu
          rw [← hzs, range_zeros] at hu'
          simp at hu'
          obtain ⟨l', hl', hu'⟩ := hu'
          rw [hl'.2] at hu'
          exact k2 u hu'
        obtain ⟨ws, w1, w2, w3⟩ := aFill_sound parts pv.toList _ out _ hrow hone h1 h2 hf
        have hol := aFill_length _ _ _ hf
        rw [zeros_length, hc2] at hol
        have wl := w2.length
        simp at wl
        have hle := hok.le_row ws e
        refine ⟨C.row ws e, .slice (some ⟨C.w.heap.size, 0, none⟩) len len, hle, hok.row ws e, rfl, ?_, ?_⟩
        · simp only [RelV]
          have hn1 : 1 ≤ n := by rcases Nat.eq_zero_or_pos n with h | h; · subst h; simp at hc4
                                 · exact h
          have hlm : len ≤ maxLen := by
            have : len * 1 ≤ len * n := Nat.mul_le_mul_left _ hn1
            simp only [maxLen]; omega
          refine ⟨some ⟨C.w.heap.size, 0, none⟩, len, rfl, Nat.le_refl _, hlm, hol, (by intro h; cases h), fun a ha => by cases ha; rfl, fun b o hb => ?_, rfl⟩
          cases hb
          refine RelCs.of_row (heap_new _ _) out ws.toList 0 (RelVs.mono hle _ _ w2) (by simpa using w3) (fun j u hj => by simpa using hj) ?_
          simp [Ctx.row]; omega
        · have hn24 : ¬ (len * n > 2 ^ 24) := by omega
          simp only [Instr.buildSlice, Sem.run_bind, run_underlying hu, Result.andThen_ok, run_sizeOf hn]
          rw [if_neg hn24]
          simp only [pure_bind]
          rw [if_neg hc4]
          simp only [Sem.run_bind, hzr, Result.andThen_ok, Sem.run_pure, w1]
          simp [newRow, Ctx.row]
    · cases h
  · cases h

def aMakeSlice (P : Program) (t : TypeId) (l c : LV) (s : List AObj) : Option (LV × List AObj) := match P.underlying t with
  | some (.slice e) => match szT P e, bytesT P e, zeroT P e with
    | some n, some by_, some z => match l, c with
      | .int .i64 l, .int .i64 c => if z.cellsOk = true ∧ z.cells.length = n ∧ 0 < n ∧ 0 ≤ l ∧ c = l ∧ l * by_ ≤ 140737488355328 ∧ l ≤ 140737488355328 then
          some (.ref n s.length 0 l.toNat true, s ++ [.cells (zeros z.cells l.toNat)]) else none
      | _, _ => none
    | _, _, _ => none
  | _ => none

theorem aMakeSlice_sound {P : Program} {C : Ctx} {s s' : List AObj} {t : TypeId} {l c y : LV} {lv cv : Value} (hok : Ok C s) (hl : RelV C l lv) (hc : RelV C c cv) (h : aMakeSlice P t l c s = some (y, s')) :
    Runs P C (Instr.makeSlice t lv cv) y s' C.τ := by
  unfold aMakeSlice at h
  split at h
  · rename_i e hu
    split at h
    · rename_i n by_ z hn hby hz
      split at h
      · rename_i l c
        simp only [RelV] at hl hc
        subst hl; subst hc
        split at h
        · rename_i hcond
          obtain ⟨c1, c2, c3, c4, rfl, c6, c7⟩ := hcond
          simp only [Option.some.injEq, Prod.mk.injEq] at h
          obtain ⟨rfl, rfl⟩ := h
          obtain ⟨zv, hzr, hzx⟩ := run_zero hz C
          obtain ⟨k1, k2⟩ := cellsOk_rel c1 hzx
          have kl := k1.length
          simp at kl
          have hzs : zv.cells.size = n := by omega
          obtain ⟨l, rfl⟩ := Int.eq_ofNat_of_zero_le c4
          have hw : IntKind.i64.wrap (l : Int) = (l : Int) := IntWalk.i64_in _ ⟨by omega, by omega⟩
          let vs : Array Value := (Array.range (l * n)).map (fun i => zv.cells[i % zv.cells.size]!)
          have hrow : RelVs C (zeros z.cells l) vs.toList := by
            simp only [vs]; rw [← hzs, range_zeros]; exact zeros_rel k1 l
          have hone : ∀ u ∈ vs.toList, u.oneCell' = true := by
            intro u hu'
            simp only [vs] at hu'
            rw [← hzs, range_zeros] at hu'
            simp at hu'
            obtain ⟨l', hl', hu'⟩ := hu'
            rw [hl'.2] at hu'
            exact k2 u hu'
          have hle := hok.le_push (.cells vs e)
          refine ⟨C.push (.cells vs e), .slice (some ⟨C.w.heap.size, 0, none⟩) l l, hle, hok.push _ _ ?_, rfl, ?_, ?_⟩
          · exact ⟨vs, e, vs.toList, [], heap_new _ _, by simp, by simpa using RelVs.mono hle _ _ hrow, hone⟩
          · simp only [RelV]
            refine ⟨by simp [Ctx.push, hok.n], l, ?_, by simp, ?_, by simp⟩
            · simp [Ctx.push, hok.n]
            · simp only [maxLen]; omega
          · unfold bytesT at hby
            simp only [Option.map_eq_some_iff] at hby
            obtain ⟨i, hi, rfl⟩ := hby
            have g1 : ¬ ((l : Int) < 0) := by omega
            have g2 : ¬ ((i.bytes : Int) * (l : Int) > 2 ^ 48) := by rw [Int.mul_comm]; omega
            simp [Instr.makeSlice, run_underlying hu, asInt, asIntOf, typeInfo, hi, hw, g1, run_sizeOf hn, hzr, newRow, Ctx.push]
            rw [if_neg (by omega)]
            by_cases h0 : l * n = 0
            · rw [if_pos h0]
              have hr0 : Array.range 0 = #[] := rfl
              simp [vs, h0, hr0]
            · rw [if_neg h0]
        · cases h
      · cases h
    · cases h
  · cases h

/-! ### clear -/
def aClear (P : Program) (t : TypeId) (x : LV) (s : List AObj) : Option (List AObj) := match P.underlying t with
  | some (.slice e) => match szT P e, zeroT P e with
    | some n, some z => match x with
      | .ref sz id off len _ => match s[id]? with
        | some (.cells cs) => if sz = n ∧ z.cellsOk = true ∧ z.cells.length = n ∧ off + len * n ≤ cs.length ∧ len ≠ 0 ∧ n ≠ 0 then some (s.set id (.cells (setAt cs off (zeros z.cells len)))) else none
        | _ => none
      | _ => none
    | _, _ => none
  | _ => none

theorem zeros_one {zv : Array Value} (h : ∀ u ∈ zv.toList, u.oneCell' = true) (n : Nat) : ∀ u ∈ (List.replicate n zv.toList).flatten, u.oneCell' = true := by
  intro u hu
  simp at hu
  obtain ⟨l, hl, hu⟩ := hu
  rw [hl.2] at hu
  exact h u hu

theorem zeroCells_eq (zv : Array Value) (n : Nat) : (Builtin.zeroCells zv n).toList = (List.replicate n zv.toList).flatten := range_zeros zv n

theorem aClear_sound {P : Program} {C : Ctx} {s s' : List AObj} {t ty : TypeId} {x : LV} {v : Value} (hok : Ok C s) (hx : RelV C x v) (h : aClear P t x s = some s') :
    ∃ C', C.le C' ∧ Ok C' s' ∧ C'.τ = C.τ ∧ (Builtin.clear_ #[t] ty #[v]).run P C.w = .ok (.tuple #[]) C'.w := by
  unfold aClear at h
  split at h
  · rename_i e hu
    split at h
    · rename_i n z hn hz
      split at h
      · rename_i sz id off len full
        split at h
        · rename_i cs hs
          split at h
          · rename_i hc
            obtain ⟨rfl, c2, c3, c4, c5, c6⟩ := hc
            simp only [Option.some.injEq] at h; subst h
            simp only [RelV] at hx
            obtain ⟨h0, cap, rfl, k1, k2, k3⟩ := hx
            obtain ⟨zv, hzr, hzx⟩ := run_zero hz C
            obtain ⟨z1, z2⟩ := cellsOk_rel c2 hzx
            have zl := z1.length
            obtain ⟨vs, T', us, ws, h1, h2, h3, h4⟩ := hok.obj id _ hs
            have hl1 := h3.length
            have hids : id < s.length := (List.getElem?_eq_some_iff.1 hs).1
            have hown := hok.own id h0
            let zs : List Value := (List.replicate len zv.cells.toList).flatten
            have zr : RelVs C (zeros z.cells len) zs := zeros_rel z1 len
            have zrl := zr.length
            rw [zeros_length, c3] at zrl
            have zo := zeros_one z2 len
            have hvs : us.length ≤ vs.toList.length := by rw [h2]; simp
            let nv : List Value := us.take off ++ zs ++ us.drop (off + zs.length)
            have hrow := run_storeCells_at (P := P) (C.ρ id) off T' zs 0 vs C.w h1 (by simp at hvs ⊢; omega) zo
            have hnv : (vs.toList.take (off + 0) ++ zs ++ vs.toList.drop (off + 0 + zs.length)) = nv ++ ws := by
              simp only [nv, h2, Nat.add_zero]
              rw [List.take_append_of_le_length (by omega), List.drop_append_of_le_length (by omega)]
              simp
            rw [hnv] at hrow
            have hlim : C.lim (C.ρ id) = 0 := hown.2.1.resolve_left fun hb => by
              rw [hs] at hb; simp at hb; subst hb
              have : 1 * 1 ≤ len * sz := Nat.mul_le_mul (by omega) (by omega)
              simp at c4; omega
            have hle := C.le_set hown.1 hlim (nv ++ ws).toArray
            refine ⟨C.set (C.ρ id) (nv ++ ws).toArray, hle, hok.set hids hlim _ _ ?_, rfl, ?_⟩
            · refine ⟨(nv ++ ws).toArray, T', nv, ws, setRow_heap _ _ _ _ _ _ h1, by simp, ?_, ?_⟩
              · exact setAt_rel _ _ _ _ _ (RelVs.mono hle _ _ h3) (RelVs.mono hle _ _ zr) (by rw [zeros_length, c3]; omega)
              · intro u hu
                simp only [nv, List.mem_append] at hu
                rcases hu with (hu | hu) | hu
                · exact h4 u (List.mem_of_mem_take hu)
                · exact zo u hu
                · exact h4 u (List.mem_of_mem_drop hu)
            · obtain ⟨len, rfl⟩ : ∃ k, len = k + 1 := ⟨len - 1, by omega⟩
              unfold Builtin.clear_
              simp only [List.getElem?_toArray, List.getElem?_cons_zero, Sem.run_bind, run_underlying hu, Result.andThen_ok, hzr]
              rw [zeroCells_eq]
              rw [hrow]
              simp [Ctx.set]
          · cases h
        · cases h
      · cases h
    · cases h
  · cases h
end Go.Hb
