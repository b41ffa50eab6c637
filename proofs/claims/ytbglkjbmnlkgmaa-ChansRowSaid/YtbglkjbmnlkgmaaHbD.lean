import Derived.Test.YtbglkjbmnlkgmaaHbC
namespace Go.Hb
open Go Go.RowKit

def aggT (P : Program) (t : TypeId) : Option Bool := (P.underlying t).map fun | .struct _ | .array _ _ => true | _ => false
def szT (P : Program) (t : TypeId) : Option Nat := (P.info? t).map (·.size)
def bytesT (P : Program) (t : TypeId) : Option Nat := (P.info? t).map (·.bytes)
def zeroT (P : Program) (t : TypeId) : Option LV := ((P.info? t).bind (·.zero)).bind ofVal

def Runs (P : Program) (C : Ctx) (m : Sem Value) (x : LV) (s : List AObj) (v : List Nat) : Prop :=
  ∃ C' u, C.le C' ∧ Ok C' s ∧ C'.τ = v ∧ RelV C' x u ∧ m.run P C.w = .ok u C'.w

theorem Runs.quiet {P : Program} {C : Ctx} {m : Sem Value} {x : LV} {s : List AObj} (h : Ok C s) {u : Value} (hx : RelV C x u) (hm : m.run P C.w = .ok u C.w) : Runs P C m x s C.τ :=
  ⟨C, u, .refl C, h, rfl, hx, hm⟩

theorem run_isAgg {P : Program} {t : TypeId} {b : Bool} (h : aggT P t = some b) (w : World) : (isAgg t).run P w = .ok b w := by
  unfold aggT at h
  simp only [Option.map_eq_some_iff] at h
  obtain ⟨d, h1, h2⟩ := h
  unfold isAgg
  rw [Sem.run_bind, run_underlying h1 w]
  subst h2
  cases d <;> simp

theorem run_sizeOf {P : Program} {t : TypeId} {n : Nat} (h : szT P t = some n) (w : World) : (sizeOf t).run P w = .ok n w := by
  unfold szT at h
  simp only [Option.map_eq_some_iff] at h
  obtain ⟨i, h1, h2⟩ := h
  simp [sizeOf, typeInfo, h1, h2]

theorem run_zero {P : Program} {t : TypeId} {x : LV} (h : zeroT P t = some x) (C : Ctx) : ∃ v, (zeroValue t).run P C.w = .ok v C.w ∧ RelV C x v := by
  unfold zeroT at h
  simp only [Option.bind_eq_some_iff] at h
  obtain ⟨z, ⟨i, h1, h2⟩, h3⟩ := h
  exact ⟨z, by simp [zeroValue, typeInfo, h1, h2], ofVal_rel C z x h3⟩

/-! ### load -/
def aLoad (P : Program) (T : TypeId) (p : LV) (s : List AObj) : Option LV :=
  match p with
  | .ptr id off => match s[id]? with
    | some (.cells cs) => match aggT P T with
      | some true => (szT P T).bind fun n => if off + n ≤ cs.length then some (.agg ((cs.drop off).take n)) else none
      | some false => cs[off]?
      | none => none
    | _ => none
  | .eptr cs => match aggT P T with
    | some true => (szT P T).bind fun n => if n ≤ cs.length then some (.agg (cs.take n)) else none
    | some false => cs[0]?
    | none => none
  | _ => none

theorem add_plain (b o k : Nat) : (⟨b, o, none⟩ : Addr).add k = ⟨b, o + k, none⟩ := by
  unfold Addr.add; split <;> simp_all

theorem RelCs.get {C : Ctx} {b : Nat} : ∀ {xs : List LV} {o : Nat}, RelCs C b xs o → ∃ us : List Value, RelVs C xs us ∧ (∀ u ∈ us, u.oneCell' = true) ∧ ∀ j u, us[j]? = some u → C.w.cell? ⟨b, o + j, none⟩ = some u := by
  intro xs
  induction xs with
  | nil => intro o _; exact ⟨[], rfl, by simp, by simp⟩
  | cons x xs ih =>
    intro o h
    obtain ⟨⟨v, h1, h2, h3, h4⟩, h5⟩ := h
    obtain ⟨us, k1, k2, k3⟩ := ih h5
    refine ⟨v :: us, ⟨v, us, rfl, h4, k1⟩, by simpa [h3] using k2, fun j u hj => ?_⟩
    cases j with
    | zero => simp at hj; subst hj; exact h1
    | succ j => rw [show o + (j + 1) = o + 1 + j from by omega]; exact k3 j u (by simpa using hj)

theorem RelCs.drop {C : Ctx} {b : Nat} : ∀ {xs : List LV} {o : Nat} (k : Nat), RelCs C b xs o → RelCs C b (xs.drop k) (o + k) := by
  intro xs
  induction xs with
  | nil => intro o k _; simp [RelCs]
  | cons x xs ih =>
    intro o k h
    cases k with
    | zero => simpa using h
    | succ k => simp only [List.drop_succ_cons]; rw [show o + (k + 1) = o + 1 + k from by omega]; exact ih k h.2

theorem RelCs.take {C : Ctx} {b : Nat} : ∀ {xs : List LV} {o : Nat} (k : Nat), RelCs C b xs o → RelCs C b (xs.take k) o := by
  intro xs
  induction xs with
  | nil => intro o k _; simp [RelCs]
  | cons x xs ih =>
    intro o k h
    cases k with
    | zero => simp [RelCs]
    | succ k => simp only [List.take_succ_cons]; exact ⟨h.1, ih k h.2⟩

theorem aLoad_quiet {P : Program} {C : Ctx} {s : List AObj} {T : TypeId} {p x : LV} {pv : Value} (hok : Ok C s) (hp : RelV C p pv) (h : aLoad P T p s = some x) :
    ∃ u, RelV C x u ∧ (Instr.loadAt T pv).run P C.w = .ok u C.w ∧ ∃ a, pv = .pointer (some a) := by
  cases p <;> simp only [aLoad] at h <;> try (cases h; done)
  case ptr id off =>
    simp only [RelV] at hp
    obtain ⟨hid, rfl⟩ := hp
    split at h
    · rename_i cs hs
      have ho := hok.obj id _ hs
      obtain ⟨vs, T', us, ws, h1, h2, h3, h4⟩ := ho
      have hlen := h3.length
      split at h
      · rename_i hag
        simp only [Option.bind_eq_some_iff] at h
        obtain ⟨n, hn, h⟩ := h
        split at h
        · rename_i hle
          simp at h; subst h
          refine ⟨.agg ((us.drop off).take n).toArray, ?_, ?_, _, rfl⟩
          · simp only [RelV]
            refine ⟨_, rfl, by simpa using (h3.drop off).take n, fun u hu => h4 u ?_⟩
            simp at hu
            exact List.mem_of_mem_drop (List.mem_of_mem_take hu)
          · have hl : ((us.drop off).take n).length = n := by simp; omega
            have := run_loadCells_list (P := P) C.w ⟨C.ρ id, off, none⟩ ((us.drop off).take n) (fun j v hv => by
              rw [add_plain]
              simp only [World.cell?, h1]
              have hj : j < n := by
                rcases Nat.lt_or_ge j n with h' | h'
                · exact h'
                · rw [List.getElem?_eq_none (by omega)] at hv; cases hv
              rw [List.getElem?_take_of_lt hj, List.getElem?_drop] at hv
              have : vs.toList[off + j]? = some v := by rw [h2, List.getElem?_append_left (by rw [← hlen]; omega)]; exact hv
              simpa using this)
            rw [hl] at this
            simp [Instr.loadAt, Instr.sureAddr, loadVar, run_isAgg hag, run_sizeOf hn, this]
        · cases h
      · rename_i hag
        obtain ⟨v, h5, h6⟩ := h3.get h
        refine ⟨v, h6, ?_, _, rfl⟩
        have hc : C.w.cell? ⟨C.ρ id, off, none⟩ = some v := by
          simp only [World.cell?, h1]
          have : vs.toList[off]? = some v := by
            rw [h2, List.getElem?_append_left (by have := (List.getElem?_eq_some_iff.1 h5).1; omega)]; exact h5
          simpa using this
        simp [Instr.loadAt, Instr.sureAddr, loadVar, run_isAgg hag, hc]
      · cases h
    · cases h
  case eptr cs =>
    simp only [RelV] at hp
    obtain ⟨b, o, rfl, hc⟩ := hp
    obtain ⟨us, h3, h4, h5⟩ := hc.get
    have hlen := h3.length
    split at h
    · rename_i hag
      simp only [Option.bind_eq_some_iff] at h
      obtain ⟨n, hn, h⟩ := h
      split at h
      · rename_i hle
        simp at h; subst h
        refine ⟨.agg (us.take n).toArray, ?_, ?_, _, rfl⟩
        · simp only [RelV]
          refine ⟨_, rfl, by simpa using h3.take n, fun u hu => h4 u ?_⟩
          simp at hu
          exact List.mem_of_mem_take hu
        · have hl : (us.take n).length = n := by simp; omega
          have := run_loadCells_list (P := P) C.w ⟨b, o, none⟩ (us.take n) (fun j v hv => by
            rw [add_plain]
            have hj : j < n := by
              rcases Nat.lt_or_ge j n with h' | h'
              · exact h'
              · rw [List.getElem?_eq_none (by omega)] at hv; cases hv
            rw [List.getElem?_take_of_lt hj] at hv
            exact h5 j v hv)
          rw [hl] at this
          simp [Instr.loadAt, Instr.sureAddr, loadVar, run_isAgg hag, run_sizeOf hn, this]
      · cases h
    · rename_i hag
      obtain ⟨v, h6, h7⟩ := h3.get h
      refine ⟨v, h7, ?_, _, rfl⟩
      have hc : C.w.cell? ⟨b, o, none⟩ = some v := by simpa using h5 0 v h6
      simp [Instr.loadAt, Instr.sureAddr, loadVar, run_isAgg hag, hc]
    · cases h

theorem aLoad_sound {P : Program} {C : Ctx} {s : List AObj} {T : TypeId} {p x : LV} {pv : Value} (hok : Ok C s) (hp : RelV C p pv) (h : aLoad P T p s = some x) : Runs P C (Instr.loadAt T pv) x s C.τ := by
  obtain ⟨u, h1, h2, _⟩ := aLoad_quiet hok hp h
  exact Runs.quiet hok h1 h2

/-! ### store -/
def setAt (cs : List LV) (off : Nat) : List LV → List LV
  | [] => cs
  | x :: xs => setAt (cs.set off x) (off + 1) xs

def aStore (P : Program) (T : TypeId) (p x : LV) (s : List AObj) : Option (List AObj) :=
  match p with
  | .ptr id off => match s[id]? with
    | some (.cells cs) => if x.cellsOk = true ∧ szT P T = some x.cells.length ∧ off + x.cells.length ≤ cs.length ∧ x.cells.length ≠ 0 then some (s.set id (.cells (setAt cs off x.cells))) else none
    | _ => none
  | _ => none

theorem setAt_length : ∀ (xs cs : List LV) (off : Nat), (setAt cs off xs).length = cs.length := by
  intro xs
  induction xs with
  | nil => intro cs off; rfl
  | cons x xs ih => intro cs off; simp [setAt, ih]

theorem setAt_rel {C : Ctx} : ∀ (xs cs : List LV) (off : Nat) (us vs : List Value), RelVs C cs us → RelVs C xs vs → off + xs.length ≤ cs.length → RelVs C (setAt cs off xs) (us.take off ++ vs ++ us.drop (off + vs.length)) := by
  intro xs
  induction xs with
  | nil =>
    intro cs off us vs h1 h2 _
    simp [RelVs] at h2; subst h2
    simpa [setAt] using h1
  | cons x xs ih =>
    intro cs off us vs h1 h2 h3
    obtain ⟨v, r, rfl, h4, h5⟩ := h2
    simp at h3
    have hl := h1.length
    have := ih (cs.set off x) (off + 1) (us.set off v) r (h1.set h4) h5 (by simp; omega)
    have e := list_seg_step us off v r (by have := h5.length; omega)
    simp only [setAt]
    rw [e] at this
    simpa using this

theorem aStore_sound {P : Program} {C : Ctx} {s s' : List AObj} {T : TypeId} {p x : LV} {pv xv : Value} (hok : Ok C s) (hp : RelV C p pv) (hx : RelV C x xv) (h : aStore P T p x s = some s') :
    ∃ C', C.le C' ∧ Ok C' s' ∧ C'.τ = C.τ ∧ (Instr.storeAt T pv xv).run P C.w = .ok () C'.w := by
  cases p <;> simp only [aStore] at h <;> try (cases h; done)
  rename_i id off
  simp only [RelV] at hp
  obtain ⟨hid, rfl⟩ := hp
  split at h
  · rename_i cs hs
    split at h
    · rename_i hc
      obtain ⟨hc1, hc2, hc3, hc4⟩ := hc
      simp at h; subst h
      obtain ⟨vs, T', us, ws, h1, h2, h3, h4⟩ := hok.obj id _ hs
      obtain ⟨k1, k2⟩ := cellsOk_rel hc1 hx
      have hl1 := h3.length
      have hl2 := k1.length
      have hids : id < s.length := (List.getElem?_eq_some_iff.1 hs).1
      have hvs : us.length ≤ vs.toList.length := by rw [h2]; simp
      have hown := hok.own id hid
      let nv : List Value := us.take off ++ xv.cells.toList ++ us.drop (off + xv.cells.toList.length)
      have hrow := run_storeCells_at (P := P) (C.ρ id) off T' xv.cells.toList 0 vs C.w h1 (by simp at hvs hl2 ⊢; omega) k2
      have hnv : (vs.toList.take (off + 0) ++ xv.cells.toList ++ vs.toList.drop (off + 0 + xv.cells.toList.length)) = nv ++ ws := by
        simp only [nv, h2, Nat.add_zero]
        rw [List.take_append_of_le_length (by omega), List.drop_append_of_le_length (by omega)]
        simp
      rw [hnv] at hrow
      have hlim : C.lim (C.ρ id) = 0 := hown.2.1.resolve_left fun hb => by
        rw [hs] at hb; simp at hb; subst hb
        have : x.cells.length ≤ 0 := by have h9 : off + x.cells.length ≤ 0 := by simpa using hc3
                                        omega
        omega
      have hle := C.le_set hown.1 hlim (nv ++ ws).toArray
      refine ⟨C.set (C.ρ id) (nv ++ ws).toArray, hle, hok.set hids hlim _ _ ?_, rfl, ?_⟩
      · refine ⟨(nv ++ ws).toArray, T', nv, ws, setRow_heap _ _ _ _ _ _ h1, by simp, ?_, ?_⟩
        · exact setAt_rel _ _ _ _ _ (RelVs.mono hle _ _ h3) (RelVs.mono hle _ _ k1) hc3
        · intro u hu
          simp only [nv, List.mem_append] at hu
          rcases hu with (hu | hu) | hu
          · exact h4 u (List.mem_of_mem_take hu)
          · exact k2 u hu
          · exact h4 u (List.mem_of_mem_drop hu)
      · have hsz : xv.cells.size = x.cells.length := by simpa using hl2.symm
        simp [Instr.storeAt, Instr.sureAddr, storeVar, run_sizeOf hc2, hsz]
        exact hrow
    · cases h
  · cases h
end Go.Hb
