import Derived.Test.YtbglkjbmnlkgmaaHbI
namespace Go.Hb
open Go Go.RowKit

def notInt (P : Program) (t : TypeId) : Bool := match P.underlying t with | some (.int _) | none => false | _ => true

/-- The right of what is appended, and the tips behind it. -/
def grow (m : Nat) (r : Right) (τ : List Nat) : Option (Right × List Nat) := if m = 0 then some (r, τ) else match r with
  | .full => some (.tip τ.length 0, τ ++ [0])
  | .tip g e => if τ[g]? = some e then some (.tip g (e + 1), τ.set g (e + 1)) else none
  | .no => none

def aHead (size : Nat) (x : LV) : Option (List LV × Nat × Right) := match x with
  | .nils => some ([], 0, .full)
  | .imm sz len cs r => if sz = size then some (cs, len, r) else none
  | _ => none

def aAppend (P : Program) (t t2 : TypeId) (x y : LV) (s : List AObj) (τ : List Nat) : Option (LV × List Nat) := match P.underlying t with
  | some (.slice e) => match szT P e, bytesT P e, zeroT P e with
    | some size, some by_, some z => if notInt P t2 = true ∧ z.cellsOk = true ∧ z.cells.length = size then
      match aHead size x, aCells size y s with
      | some (cs, n, r), some (ds, m) => if n + m ≤ maxLen ∧ (n + m) * by_ ≤ 140737488355328 then (grow m r τ).map fun (r', τ') => (.imm size (n + m) (cs ++ ds) r', τ') else none
      | _, _ => none
      else none
    | _, _, _ => none
  | _ => none

theorem aHead_rel {C : Ctx} {size : Nat} {x : LV} {v : Value} {cs : List LV} {n : Nat} {r : Right} (hx : RelV C x v) (h : aHead size x = some (cs, n, r)) : RelV C (.imm size n cs r) v := by
  unfold aHead at h
  split at h
  · simp at h; obtain ⟨rfl, rfl, rfl⟩ := h
    simp only [RelV] at hx ⊢; subst hx
    refine ⟨none, 0, rfl, Nat.le_refl _, Nat.zero_le _, by simp, fun _ => by simp, (fun _ h => by cases h), (fun _ _ h => by cases h), by simp [RelR]⟩
  · split at h
    · rename_i e; simp at h; obtain ⟨rfl, rfl, rfl⟩ := h; subst e; exact hx
    · cases h
  · cases h

theorem size_zero' (z : Array Value) (n : Nat) : (Builtin.zeroCells z n).size = n * z.size := by simp [Builtin.zeroCells]

theorem aAppend_sound {P : Program} {C : Ctx} {s : List AObj} {τ' : List Nat} {t t2 ty : TypeId} {x y r : LV} {v u : Value} (hok : Ok C s) (hx : RelV C x v) (hy : RelV C y u) (h : aAppend P t t2 x y s C.τ = some (r, τ')) :
    Runs P C (Builtin.append_ #[t, t2] ty #[v, u]) r s τ' := by
  unfold aAppend at h
  split at h
  · rename_i e hu
    split at h
    · rename_i size by_ z hsz hby hz
      split at h
      · rename_i hc
        obtain ⟨hc1, hc2, hc3⟩ := hc
        split at h
        · rename_i cs n r0 ds m hh hcs
          split at h
          · rename_i hbd
            obtain ⟨hbd1, hbd2⟩ := hbd
            simp only [Option.map_eq_some_iff] at h
            obtain ⟨⟨r', τ1⟩, hg, h⟩ := h
            simp only [Prod.mk.injEq] at h
            obtain ⟨rfl, rfl⟩ := h
            have hx' := aHead_rel hx hh
            simp only [RelV] at hx'
            obtain ⟨A, cap, rfl, k1, k2, k3, k4, k5, k6, k7⟩ := hx'
            obtain ⟨us, q1, q2, q3, q4⟩ := aCells_sound (P := P) hok hy hcs
            -- the types
            unfold szT at hsz; unfold bytesT at hby; unfold zeroT at hz
            simp only [Option.map_eq_some_iff, Option.bind_eq_some_iff] at hsz hby hz
            obtain ⟨i, hi, hsz⟩ := hsz
            obtain ⟨i2, hi2, hby⟩ := hby
            rw [hi] at hi2; cases hi2
            obtain ⟨zv, ⟨i3, hi3, hz1⟩, hz2⟩ := hz
            rw [hi] at hi3; cases hi3
            have hzrel := ofVal_rel C zv z hz2
            obtain ⟨z1, z2⟩ := cellsOk_rel hc2 hzrel
            have hzl : zv.cells.size = size := by have := z1.length; simp at this; omega
            unfold notInt at hc1
            have hlen1 := q1.length
            subst hsz
            subst hby
            cases hu2 : P.underlying t2 with
            | none => simp [hu2] at hc1
            | some d2 =>
            have hd2 : ∀ k, d2 ≠ .int k := by intro k e; subst e; simp [hu2] at hc1
            by_cases hm : m = 0
            · -- nothing is appended
              subst hm
              have hus : us = [] := List.eq_nil_of_length_eq_zero (by omega)
              subst hus
              have hds : ds = [] := by cases ds with | nil => rfl | cons a l => simp [RelVs] at q1
              subst hds
              simp only [grow, if_true, Option.some.injEq, Prod.mk.injEq] at hg
              obtain ⟨rfl, rfl⟩ := hg
              refine Runs.quiet hok (u := .slice A (n + 0) cap) ?_ ?_
              · simp only [RelV, List.append_nil, Nat.add_zero]
                exact ⟨A, cap, rfl, k1, k2, k3, k4, k5, k6, k7⟩
              · exact run_append_room' t t2 ty e i hu d2 hu2 hd2 hi A n cap #[] 0 u q4 (by omega) C.w (fun a _ => by simp [storeCells]) (fun _ => rfl)
            · have hgr : ∃ g, TipStep C.τ g τ1 ∧ r' = .tip g (τ1.getD g 0) ∧ τ1[g]? = some (τ1.getD g 0) ∧ (r0 = .full ∨ ∃ e, r0 = .tip g e ∧ C.τ[g]? = some e ∧ τ1 = C.τ.set g (e + 1)) := by
                unfold grow at hg
                rw [if_neg hm] at hg
                cases r0 with
                | no => cases hg
                | full =>
                  simp only [Option.some.injEq, Prod.mk.injEq] at hg
                  obtain ⟨rfl, rfl⟩ := hg
                  exact ⟨C.τ.length, .inl ⟨rfl, rfl⟩, by simp, by simp, .inl rfl⟩
                | tip g e =>
                  simp only at hg
                  split at hg
                  · rename_i he
                    have hlt := (List.getElem?_eq_some_iff.1 he).1
                    simp only [Option.some.injEq, Prod.mk.injEq] at hg
                    obtain ⟨rfl, rfl⟩ := hg
                    exact ⟨g, .inr ⟨e, he, rfl⟩, by simp [hlt], by simp [hlt], .inr ⟨e, rfl, he, rfl⟩⟩
                  · cases hg
              obtain ⟨g, hstep, rfl, hg1, hg2⟩ := hgr
              by_cases hroom : n + m ≤ cap
              · -- in its place
                rcases hg2 with rfl | ⟨e0, rfl, he0, hτ⟩
                · simp only [RelR] at k7; omega
                · obtain ⟨e1, p1, p2, p3⟩ := k7
                  rw [he0] at p1; cases p1
                  obtain ⟨b, o, rfl, hθ⟩ := p3 rfl
                  have hglt := (List.getElem?_eq_some_iff.1 he0).1
                  obtain ⟨t1, t2', old, T, t3, t4⟩ := hok.tip g hglt
                  rw [hθ] at t3 t4 t2'
                  simp only at t3 t4 t2'
                  have hsp : (m : Nat) * i.size ≤ (cap - n) * i.size := Nat.mul_le_mul_right _ (by omega)
                  have hfit : (o + n * i.size) + us.length ≤ old.size := by omega
                  let vs : Array Value := (old.toList.take (o + cs.length) ++ us ++ old.toList.drop (o + cs.length + us.length)).toArray
                  have hst := run_storeCells_at (P := P) b (o + n * i.size) T us 0 old C.w t3 (by omega) q2
                  have hvs : (old.toList.take (o + n * i.size + 0) ++ us ++ old.toList.drop (o + n * i.size + 0 + us.length)).toArray = vs := by
                    simp only [vs, k3, Nat.add_zero]
                  rw [hvs] at hst
                  have holdθ : C.w.heap[(C.θ g).b]? = some (.cells old T (0, 0)) := by rw [hθ]; exact t3
                  have hsame : ∀ o', o' < (C.θ g).stop → vs[o']? = old[o']? := by
                    intro o' ho'
                    rw [hθ] at ho'; simp only at ho'
                    simp only [vs, List.getElem?_toArray]
                    rw [List.append_assoc, List.getElem?_append_left (by simp; omega), List.getElem?_take_of_lt ho']
                    simp
                  have hvsz : vs.size = old.size := by simp [vs]; omega
                  have hmul : (cap - n) * i.size = m * i.size + (cap - (n + m)) * i.size := by rw [← Nat.add_mul]; congr 1; omega
                  have hle := hok.le_tipGrow he0 holdθ hsame (L := o + cs.length + us.length) (by rw [hθ]; simp) (cap - (n + m))
                  refine ⟨C.tipGrow vs g e0 (o + cs.length + us.length) (cap - (n + m)), .slice (some ⟨b, o, none⟩) (n + m) cap, hle,
                    hok.tipGrow he0 holdθ hsame (by rw [hθ]; simp) (cap - (n + m)) (by rw [hθ]; simp only; omega), hτ.symm, ?_, ?_⟩
                  · simp only [RelV]
                    refine ⟨some ⟨b, o, none⟩, cap, rfl, hroom, k2, by simp [k3, Nat.add_mul]; omega, (by intro h; cases h), fun a ha => by cases ha; rfl, fun b' o' hb' => ?_, ?_⟩
                    · cases hb'
                      refine RelCs.app (RelCs.mono hle _ _ _ (k6 b o rfl)) ?_
                      have hnew : (C.tipGrow vs g e0 (o + cs.length + us.length) (cap - (n + m))).w.heap[b]? = some (.cells vs T (0, 0)) := by
                        have := setRow_heap C.w b old vs T (0, 0) t3
                        simpa [Ctx.tipGrow, hθ] using this
                      refine RelCs.of_row hnew ds us _ (RelVs.mono hle _ _ q1) q2 (fun j u' hj => ?_) ?_
                      · have hj' := (List.getElem?_eq_some_iff.1 hj).1
                        simp only [vs, List.getElem?_toArray]
                        rw [List.append_assoc, List.getElem?_append_right (by simp; omega)]
                        have e9 : o + cs.length + j - (old.toList.take (o + cs.length)).length = j := by simp; omega
                        rw [e9, List.getElem?_append_left hj']; exact hj
                      · simp [Ctx.tipGrow, hθ]; omega
                    · refine ⟨_, ?_, Nat.le_refl _, fun _ => ⟨b, o, rfl, ?_⟩⟩
                      · simp only [Ctx.tipGrow]; rw [← hτ]; exact hg1
                      · simp only [Ctx.tipGrow, if_true, hθ, Tip.mk.injEq, and_true, true_and]
                        simp; omega
                  · have := run_append_room' (P := P) (w := C.w) t t2 ty e i hu d2 hu2 hd2 hi (some ⟨b, o, none⟩) n cap us.toArray m u q4 hroom (C.w.setRow b vs)
                      (fun a ha => by cases ha; rw [add_plain]; exact hst) (fun h => by cases h)
                    simpa [Ctx.tipGrow, hθ] using this
              · -- in a new block
                have hold : ∃ os : List Value, RelVs C cs os ∧ (∀ u ∈ os, u.oneCell' = true) ∧ ∀ w' : World, w'.heap = C.w.heap → (Builtin.firstCells i.size n (.slice A n cap)).run P w' = .ok os.toArray w' := by
                  have hhead : RelV C (.imm i.size n cs .no) (.slice A n cap) := by
                    simp only [RelV]; exact ⟨A, cap, rfl, k1, k2, k3, k4, k5, k6, trivial⟩
                  obtain ⟨os, o1, o2, o3, o4⟩ := aCells_sound (P := P) (size := i.size) (cs := cs) (n := n) hok hhead (by simp [aCells])
                  exact ⟨os, o1, o2, fun w' hw => (o4 w' hw).2⟩
                obtain ⟨os, o1, o2, o3⟩ := hold
                have ol := o1.length
                have hrun := run_append_grows' (P := P) (w := C.w) t t2 ty e i zv hu d2 hu2 hd2 hi hz1 A n cap os.toArray us.toArray m u o3 q4 (by omega) hbd1 hbd2
                have hge := grownCap_ge C.w (n + m) cap e
                have hle2 := grownCap_le_maxLen C.w (n + m) cap e hbd1
                generalize grownCap C.w (n + m) cap e = gc at *
                let vs : Array Value := os.toArray ++ us.toArray ++ Builtin.zeroCells zv.cells (gc - (n + m))
                have hvsz : vs.size = (n + m) * i.size + (gc - (n + m)) * i.size := by
                  simp [vs, size_zero', hzl]
                  rw [Nat.add_mul]; omega
                have hle := hok.le_tipNew vs e ((n + m) * i.size) (gc - (n + m)) i.size g hstep
                refine ⟨C.tipNew vs e ((n + m) * i.size) (gc - (n + m)) i.size g τ1, _, hle, hok.tipNew vs e _ _ _ g hstep (by omega), rfl, ?_, hrun⟩
                simp only [RelV]
                refine ⟨some ⟨C.w.heap.size, 0, none⟩, gc, rfl, hge, hle2, by simp [k3, Nat.add_mul]; omega, (by intro h; cases h), fun a ha => by cases ha; rfl, fun b' o' hb' => ?_, ?_⟩
                · cases hb'
                  have hnew : (C.tipNew vs e ((n + m) * i.size) (gc - (n + m)) i.size g τ1).w.heap[C.w.heap.size]? = some (.cells vs e (0, 0)) := heap_new C.w.drew _
                  refine RelCs.of_row hnew (cs ++ ds) (os ++ us) 0 ((RelVs.mono hle _ _ o1).app (RelVs.mono hle _ _ q1)) (fun u' hu' => ?_) (fun j u' hj => ?_) ?_
                  · rcases List.mem_append.1 hu' with h' | h'
                    · exact o2 u' h'
                    · exact q2 u' h'
                  · have hj' := (List.getElem?_eq_some_iff.1 hj).1
                    have e1 : vs.toList = (os ++ us) ++ (Builtin.zeroCells zv.cells (gc - (n + m))).toList := by simp [vs]
                    have e2 : vs.toList[j]? = some u' := by rw [e1, List.getElem?_append_left hj']; exact hj
                    simpa using e2
                  · simp only [Ctx.tipNew, if_true, List.length_append, Nat.zero_add, Nat.add_mul]; omega
                · refine ⟨_, hg1, Nat.le_refl _, fun _ => ⟨_, _, rfl, ?_⟩⟩
                  simp only [Ctx.tipNew, if_true, Tip.mk.injEq, and_true, true_and]
                  simp [Nat.add_mul]; omega
          · cases h
        · cases h
      · cases h
    · cases h
  · cases h
end Go.Hb
