import Derived.Test.YtbglkjbmnlkgmaaHbD
namespace Go.Hb
open Go Go.RowKit

/-! ### alloc, box -/
def aNew (x : LV) (s : List AObj) : Option (LV × List AObj) := if x.cellsOk = true then some (.ptr s.length 0, s ++ [.cells x.cells]) else none

theorem new_sound {P : Program} {C : Ctx} {s s' : List AObj} {x r : LV} {v : Value} (T : TypeId) (hok : Ok C s) (hx : RelV C x v) (h : aNew x s = some (r, s')) :
    Runs P C (do pure (.pointer (some (← newVar T v)))) r s' C.τ := by
  unfold aNew at h
  split at h
  · rename_i hc
    simp at h
    obtain ⟨rfl, rfl⟩ := h
    obtain ⟨k1, k2⟩ := cellsOk_rel hc hx
    have hle := hok.le_push (.cells v.cells T)
    refine ⟨C.push (.cells v.cells T), .pointer (some ⟨C.w.heap.size, 0, none⟩), hle, hok.push _ _ ?_, rfl, ?_, ?_⟩
    · exact ⟨v.cells, T, v.cells.toList, [], heap_new _ _, by simp, RelVs.mono hle _ _ k1, k2⟩
    · simp only [RelV]
      refine ⟨by simp [Ctx.push, hok.n], ?_⟩
      simp [Ctx.push, hok.n]
    · simp [newVar, newRow, Ctx.push]
  · cases h

def aAlloc (P : Program) (T : TypeId) (s : List AObj) : Option (LV × List AObj) := (zeroT P T).bind fun z => aNew z s

theorem aAlloc_sound {P : Program} {C : Ctx} {s s' : List AObj} {r : LV} {T : TypeId} (hok : Ok C s) (h : aAlloc P T s = some (r, s')) : Runs P C (Instr.alloc T true (.tuple #[])) r s' C.τ := by
  unfold aAlloc at h
  simp only [Option.bind_eq_some_iff] at h
  obtain ⟨z, hz, h⟩ := h
  obtain ⟨v, hv, hx⟩ := run_zero hz C
  obtain ⟨C', u, h1, h2, h3, h4, h5⟩ := new_sound (P := P) T hok hx h
  refine ⟨C', u, h1, h2, h3, h4, ?_⟩
  simp only [Sem.run_bind, Sem.run_pure] at h5
  simp [Instr.alloc, hv, h5]

theorem aBox_sound {P : Program} {C : Ctx} {s s' : List AObj} {x r : LV} {v : Value} {T : TypeId} (hok : Ok C s) (hx : RelV C x v) (h : aNew x s = some (r, s')) : Runs P C (Instr.box T v) r s' C.τ := by
  simpa [Instr.box] using new_sound (P := P) T hok hx h

/-! ### parts of a struct -/
def fldT (P : Program) (t : TypeId) (f : Nat) : Option Field := match P.underlying t with | some (.struct fs) => fs[f]? | _ => none

def aPart (P : Program) (t : TypeId) (cs : List LV) (off : Nat) : Option LV := match aggT P t with
  | some true => (szT P t).bind fun n => if off + n ≤ cs.length then some (.agg ((cs.drop off).take n)) else none
  | some false => cs[off]?
  | none => none

theorem aPart_sound {P : Program} {C : Ctx} {t : TypeId} {cs : List LV} {off : Nat} {x : LV} {vs : Array Value} (hr : RelVs C cs vs.toList) (h1 : ∀ u ∈ vs, u.oneCell' = true) (h : aPart P t cs off = some x) :
    ∃ v, (part t vs off).run P C.w = .ok v C.w ∧ RelV C x v := by
  have hl := hr.length
  unfold aPart at h
  split at h
  · rename_i ha
    simp only [Option.bind_eq_some_iff] at h
    obtain ⟨n, hn, h⟩ := h
    split at h
    · rename_i hle
      simp at h; subst h
      refine ⟨.agg (vs.extract off (off + n)), by simp [part, run_isAgg ha, run_sizeOf hn], ?_⟩
      simp only [RelV]
      refine ⟨_, rfl, ?_, fun u hu => h1 u ?_⟩
      · have := (hr.drop off).take n
        simpa [List.extract] using this
      · have h3 : u ∈ (vs.extract off (off + n)).toList := Array.mem_toList_iff.2 hu
        rw [Array.toList_extract] at h3
        have h2 := List.mem_of_mem_drop (List.mem_of_mem_take h3)
        exact Array.mem_toList_iff.1 h2
    · cases h
  · rename_i ha
    obtain ⟨v, h2, h3⟩ := hr.get h
    have h2' : vs[off]? = some v := by simpa using h2
    exact ⟨v, by simp [part, run_isAgg ha, h2'], h3⟩
  · cases h

def aField (P : Program) (t : TypeId) (x : LV) (f : Nat) : Option LV := match x, fldT P t f with
  | .agg cs, some fd => aPart P fd.type cs fd.offset
  | _, _ => none

theorem aField_sound {P : Program} {C : Ctx} {s : List AObj} {t : TypeId} {x y : LV} {v : Value} {f : Nat} (hok : Ok C s) (hx : RelV C x v) (h : aField P t x f = some y) : Runs P C (Instr.field t v f) y s C.τ := by
  unfold aField at h
  split at h
  · rename_i cs fd hf
    simp only [RelV] at hx
    obtain ⟨vs, rfl, h1, h2⟩ := hx
    obtain ⟨u, h3, h4⟩ := aPart_sound (P := P) h1 h2 h
    refine Runs.quiet hok h4 ?_
    unfold fldT at hf
    split at hf
    · rename_i fs hu
      simp [Instr.field, run_underlying hu, hf, asAgg, h3]
    · cases hf
  · cases h

def aFieldAddr (P : Program) (t : TypeId) (x : LV) (f : Nat) : Option LV := match fldT P t f with
  | some fd => match szT P fd.type with
    | some (_ + 1) => match x with
      | .ptr id off => some (.ptr id (off + fd.offset))
      | .eptr cs => some (.eptr (cs.drop fd.offset))
      | _ => none
    | _ => none
  | none => none

theorem aFieldAddr_sound {P : Program} {C : Ctx} {s : List AObj} {t : TypeId} {x y : LV} {v : Value} {f : Nat} (hok : Ok C s) (hx : RelV C x v) (h : aFieldAddr P t x f = some y) : Runs P C (Instr.fieldAt t v f) y s C.τ := by
  unfold aFieldAddr at h
  split at h
  · rename_i fd hf
    split at h
    · rename_i n hn
      unfold fldT at hf
      split at hf
      · rename_i fs hu
        split at h
        · rename_i id off
          simp at h; subst h
          simp only [RelV] at hx
          obtain ⟨h1, rfl⟩ := hx
          refine Runs.quiet hok (u := .pointer (some ⟨C.ρ id, off + fd.offset, none⟩)) (by simp [RelV, h1]) ?_
          simp [Instr.fieldAt, run_underlying hu, hf, Instr.sureAddr, fieldPlace, run_sizeOf hn, add_plain]
        · rename_i cs
          simp at h; subst h
          simp only [RelV] at hx
          obtain ⟨b, o, rfl, h1⟩ := hx
          refine Runs.quiet hok (u := .pointer (some ⟨b, o + fd.offset, none⟩)) ?_ ?_
          · simp only [RelV]; exact ⟨b, _, rfl, h1.drop _⟩
          · simp [Instr.fieldAt, run_underlying hu, hf, Instr.sureAddr, fieldPlace, run_sizeOf hn, add_plain]
        · cases h
      · cases hf
    · cases h
  · cases h

/-! ### index -/
def aIndexAddr (P : Program) (t : TypeId) (x i : LV) : Option LV := match i with
  | .int _ i => match P.underlying t with
    | some (.slice e) => match szT P e with
      | some n => match x with
        | .imm sz len cs _ => if sz = n ∧ 0 ≤ i ∧ i < (len : Int) then some (.eptr (cs.drop (i.toNat * sz))) else none
        | .ref sz id off len _ => if sz = n ∧ 0 ≤ i ∧ i < (len : Int) then some (.ptr id (off + i.toNat * sz)) else none
        | _ => none
      | none => none
    | some (.array len e) => match szT P e with
      | some n => match x with
        | .ptr id off => if 0 ≤ i ∧ i < (len : Int) then some (.ptr id (off + i.toNat * n)) else none
        | .eptr cs => if 0 ≤ i ∧ i < (len : Int) then some (.eptr (cs.drop (i.toNat * n))) else none
        | _ => none
      | none => none
    | _ => none
  | _ => none

theorem aIndexAddr_sound {P : Program} {C : Ctx} {s : List AObj} {t : TypeId} {x i y : LV} {v iv : Value} (hok : Ok C s) (hx : RelV C x v) (hi : RelV C i iv) (h : aIndexAddr P t x i = some y) : Runs P C (Instr.indexAt t v iv) y s C.τ := by
  unfold aIndexAddr at h
  split at h
  · rename_i k i
    simp only [RelV] at hi; subst hi
    split at h
    · rename_i e hu
      split at h
      · rename_i n hn
        split at h
        · rename_i sz len cs r
          split at h
          · rename_i hc
            obtain ⟨rfl, hc1, hc2⟩ := hc
            simp at h; subst h
            simp only [RelV] at hx
            obtain ⟨A, cap, rfl, h1, h2, h3, h4, h5, h6, h7⟩ := hx
            cases A with
            | none => have := h4 rfl; omega
            | some a =>
              obtain ⟨b, o, sp⟩ := a
              have := h5 _ rfl; simp at this; subst this
              refine Runs.quiet hok (u := .pointer (some ⟨b, o + i.toNat * sz, none⟩)) ?_ ?_
              · simp only [RelV]; exact ⟨b, _, rfl, (h6 b o rfl).drop _⟩
              · simp [Instr.indexAt, run_underlying hu, asIntOf, hc1, hc2, run_sizeOf hn, add_plain]
          · cases h
        · rename_i sz id off len full
          split at h
          · rename_i hc
            obtain ⟨rfl, hc1, hc2⟩ := hc
            simp at h; subst h
            simp only [RelV] at hx
            obtain ⟨h0, cap, rfl, h1⟩ := hx
            refine Runs.quiet hok (u := .pointer (some ⟨C.ρ id, off + i.toNat * sz, none⟩)) (by simp [RelV, h0]) ?_
            simp [Instr.indexAt, run_underlying hu, asIntOf, hc1, hc2, run_sizeOf hn, add_plain]
          · cases h
        · cases h
      · cases h
    · rename_i len e hu
      split at h
      · rename_i n hn
        split at h
        · rename_i id off
          split at h
          · rename_i hc
            obtain ⟨hc1, hc2⟩ := hc
            simp at h; subst h
            simp only [RelV] at hx
            obtain ⟨h0, rfl⟩ := hx
            refine Runs.quiet hok (u := .pointer (some ⟨C.ρ id, off + i.toNat * n, none⟩)) (by simp [RelV, h0]) ?_
            simp [Instr.indexAt, run_underlying hu, asIntOf, hc1, hc2, run_sizeOf hn, add_plain, Instr.sureAddr]
          · cases h
        · rename_i cs
          split at h
          · rename_i hc
            obtain ⟨hc1, hc2⟩ := hc
            simp at h; subst h
            simp only [RelV] at hx
            obtain ⟨b, o, rfl, h1⟩ := hx
            refine Runs.quiet hok (u := .pointer (some ⟨b, o + i.toNat * n, none⟩)) ?_ ?_
            · simp only [RelV]; exact ⟨b, _, rfl, h1.drop _⟩
            · simp [Instr.indexAt, run_underlying hu, asIntOf, hc1, hc2, run_sizeOf hn, add_plain, Instr.sureAddr]
          · cases h
        · cases h
      · cases h
    · cases h
  · cases h

def aIndex (P : Program) (t : TypeId) (x i : LV) : Option LV := match i with
  | .int _ i => match P.underlying t with
    | some (.array len e) => match szT P e, x with
      | some n, .agg cs => if 0 ≤ i ∧ i < (len : Int) then aPart P e cs (i.toNat * n) else none
      | _, _ => none
    | some .string => match x with
      | .str s => if 0 ≤ i ∧ i < (s.size : Int) then some (.int .u8 ((s.data.getD i.toNat 0).toNat : Int)) else none
      | _ => none
    | _ => none
  | _ => none

theorem aIndex_sound {P : Program} {C : Ctx} {s : List AObj} {t : TypeId} {x i y : LV} {v iv : Value} (hok : Ok C s) (hx : RelV C x v) (hi : RelV C i iv) (h : aIndex P t x i = some y) : Runs P C (Instr.index t v iv) y s C.τ := by
  unfold aIndex at h
  split at h
  · rename_i k i
    simp only [RelV] at hi; subst hi
    split at h
    · rename_i len e hu
      split at h
      · rename_i n cs hn
        split at h
        · rename_i hc
          obtain ⟨hc1, hc2⟩ := hc
          simp only [RelV] at hx
          obtain ⟨vs, rfl, h1, h2⟩ := hx
          obtain ⟨u, h3, h4⟩ := aPart_sound (P := P) h1 h2 h
          refine Runs.quiet hok h4 ?_
          simp [Instr.index, run_underlying hu, asIntOf, hc1, hc2, run_sizeOf hn, h3]
        · cases h
      · cases h
    · rename_i hu
      split at h
      · rename_i b
        split at h
        · rename_i hc
          obtain ⟨hc1, hc2⟩ := hc
          simp at h; subst h
          simp only [RelV] at hx; subst hx
          have hlt : i.toNat < b.size := by omega
          have hg : b[i.toNat]? = some (b.data.getD i.toNat 0) := by
            have h2 : i.toNat < b.data.size := hlt
            rw [ByteArray.getElem?_lt' b _ hlt]
            unfold Array.getD
            rw [dif_pos h2]; rfl
          refine Runs.quiet hok (u := .int .u8 ((b.data.getD i.toNat 0).toNat : Int)) (by simp [RelV]) ?_
          simp [Instr.index, run_underlying hu, asIntOf, hc1, hg]
        · cases h
      · cases h
    · cases h
  · cases h
end Go.Hb
