import Derived.Test.YtbglkjbmnlkgmaaHbF
namespace Go.Hb
open Go Go.RowKit

def sliceR (len l h : Nat) (m : Option Nat) (r : Right) : Right := match m with
  | some m => if m = h then .full else .no
  | none => if h = len then (match r with
    | .full => .full
    | .tip g e => if l < len ∨ l = 0 then .tip g e else .no
    | .no => .no) else .no

def aSlice (P : Program) (t : TypeId) (x : LV) (lo hi mx : Option LV) : Option LV := match P.underlying t with
  | some (.slice e) => match szT P e with
    | some n => match x with
      | .imm sz len cs r => if sz = n then (aBounds len lo hi mx).map fun (l, h, m) => .imm sz (h - l) ((cs.drop (l * sz)).take ((h - l) * sz)) (sliceR len l h m r) else none
      | .nils => (aBounds 0 lo hi mx).map fun _ => .nils
      | .ref sz id off len full => if sz = n then (aBounds len lo hi mx).bind fun (l, h, m) => if l < m.getD len ∨ l = 0 then some (.ref sz id (off + l * sz) (h - l) (match m with | some m => decide (m = h) | none => full && decide (h = len))) else none else none
      | _ => none
    | none => none
  | some .string => match x with
    | .str s => match mx with
      | none => (aBounds s.size lo hi none).map fun (l, h, _) => .str (s.extract l h)
      | some _ => none
    | _ => none
  | _ => none

theorem aSlice_sound {P : Program} {C : Ctx} {s : List AObj} {t : TypeId} {x y : LV} {v : Value} {lo hi mx : Option LV} {vlo vhi vmx : Option Value} (hok : Ok C s) (hx : RelV C x v)
    (h1 : RelOV C lo vlo) (h2 : RelOV C hi vhi) (h3 : RelOV C mx vmx) (h : aSlice P t x lo hi mx = some y) : Runs P C (Instr.sliceAt t v vlo vhi vmx) y s C.τ := by
  unfold aSlice at h
  split at h
  · rename_i e hu
    split at h
    · rename_i n hn
      have hst : ∀ A len cap l hh m, (Instr.sliceBounds true len cap vlo vhi vmx).run P C.w = .ok (l, hh, m) C.w → (Instr.sliceAt t (.slice A len cap) vlo vhi vmx).run P C.w = .ok (.slice (if m = l then A else A.map (·.add (l * n))) (hh - l) (m - l)) C.w := by
        intro A len cap l hh m hb
        simp [Instr.sliceAt, Instr.slice, run_underlying hu, hb, run_sizeOf hn]
      split at h
      · rename_i sz len cs r
        split at h
        · rename_i hsz
          subst hsz
          simp only [Option.map_eq_some_iff] at h
          obtain ⟨⟨l, hh, m⟩, hb, rfl⟩ := h
          simp only [RelV] at hx
          obtain ⟨A, cap, rfl, k1, k2, k3, k4, k5, k6, k7⟩ := hx
          obtain ⟨b1, b2, b3, b4, b5, b6⟩ := aBounds_sound (P := P) (isSlice := true) k1 h1 h2 h3 hb
          have hm : hh ≤ m.getD cap := by cases m <;> simp at b2 b3 ⊢ <;> omega
          have hm2 : m.getD cap ≤ cap := by cases m <;> simp at b2 b3 ⊢; omega
          have hlen : ((cs.drop (l * sz)).take ((hh - l) * sz)).length = (hh - l) * sz := by
            simp only [List.length_take, List.length_drop, k3]
            have e1 : len * sz - l * sz = (len - l) * sz := by rw [Nat.sub_mul]
            rw [e1]
            exact Nat.min_eq_left (Nat.mul_le_mul_right _ (by omega))
          refine Runs.quiet hok ?_ (hst A len cap l hh _ b6)
          simp only [RelV]
          refine ⟨_, _, rfl, by omega, by omega, hlen, ?_, ?_, ?_, ?_⟩
          · intro e
            have : A = none := by split at e <;> simp_all
            have := k4 this
            omega
          · intro a ha
            split at ha
            · exact k5 a ha
            · cases A with
              | none => simp at ha
              | some a0 =>
                obtain ⟨b, o, sp⟩ := a0
                have := k5 _ rfl; simp at this; subst this
                simp [add_plain] at ha; subst ha; rfl
          · intro b o ha
            by_cases hml : m.getD cap = l
            · have : hh - l = 0 := by omega
              rw [this]; simp [RelCs]
            · rw [if_neg hml] at ha
              cases A with
              | none => simp at ha
              | some a0 =>
                obtain ⟨b', o', sp⟩ := a0
                have := k5 _ rfl; simp at this; subst this
                simp [add_plain] at ha
                obtain ⟨rfl, rfl⟩ := ha
                exact ((k6 b' o' rfl).drop _).take _
          · unfold sliceR
            cases m with
            | some m =>
              simp only [Option.getD_some]
              by_cases e : m = hh
              · rw [if_pos e]; subst e; simp [RelR]
              · rw [if_neg e]; trivial
            | none =>
              simp only [Option.getD_none] at hm hm2 b2 ⊢
              by_cases e : hh = len
              · rw [if_pos e]
                subst e
                cases r with
                | no => trivial
                | full => simp only [RelR] at k7 ⊢; omega
                | tip g e =>
                  by_cases hl : l < hh ∨ l = 0
                  · simp only [hl, if_true]
                    obtain ⟨e0, q1, q2, q3⟩ := k7
                    refine ⟨e0, q1, q2, fun he => ?_⟩
                    obtain ⟨b, o, rfl, q4⟩ := q3 he
                    rw [q4, hlen]
                    have hmul : (hh - l) * sz + l * sz = cs.length := by rw [k3, ← Nat.add_mul]; congr 1; omega
                    by_cases hcl : cap = l
                    · have hl0 : l = 0 := by omega
                      rw [if_pos hcl]
                      refine ⟨b, o, rfl, ?_⟩
                      simp only [Tip.mk.injEq, true_and, and_true]
                      constructor
                      · rw [hl0] at hmul ⊢; simp only [Nat.zero_mul] at hmul; omega
                      · omega
                    · rw [if_neg hcl]
                      refine ⟨b, o + l * sz, by simp [add_plain], ?_⟩
                      simp only [Tip.mk.injEq, true_and, and_true]
                      constructor <;> omega
                  · simp only [hl, if_false]; trivial
              · rw [if_neg e]; trivial
        · cases h
      · simp only [Option.map_eq_some_iff] at h
        obtain ⟨⟨l, hh, m⟩, hb, rfl⟩ := h
        simp only [RelV] at hx; subst hx
        obtain ⟨b1, b2, b3, b4, b5, b6⟩ := aBounds_sound (P := P) (isSlice := true) (Nat.le_refl 0) h1 h2 h3 hb
        refine Runs.quiet hok ?_ (hst none 0 0 l hh _ b6)
        have : m.getD 0 = 0 := by omega
        simp only [RelV]
        rw [this]
        have e1 : l = 0 := by omega
        have e2 : hh = 0 := by omega
        subst e1; subst e2; simp
      · rename_i sz id off len full
        split at h
        · rename_i hsz
          subst hsz
          simp only [Option.bind_eq_some_iff] at h
          obtain ⟨⟨l, hh, m⟩, hb, h⟩ := h
          simp only at h
          split at h
          · rename_i hl
            simp only [Option.some.injEq] at h; subst h
            simp only [RelV] at hx
            obtain ⟨h0, cap, rfl, k1, k2, k3⟩ := hx
            obtain ⟨b1, b2, b3, b4, b5, b6⟩ := aBounds_sound (P := P) (isSlice := true) k1 h1 h2 h3 hb
            have hm : hh ≤ m.getD cap := by cases m <;> simp at b2 b3 ⊢ <;> omega
            have hm2 : m.getD cap ≤ cap := by cases m <;> simp at b2 b3 ⊢; omega
            refine Runs.quiet hok ?_ (hst _ len cap l hh _ b6)
            simp only [RelV]
            refine ⟨h0, m.getD cap - l, ?_, by omega, by omega, ?_⟩
            · by_cases hml : m.getD cap = l
              · rw [if_pos hml]
                have hl0 : l = 0 := by
                  rcases hl with hl | hl
                  · cases m with
                    | none => simp at hml hl; omega
                    | some m =>
                      simp at hml hl; omega
                  · exact hl
                subst hl0; simp
              · rw [if_neg hml]; simp [add_plain]
            · intro hf
              cases m with
              | none => simp at hf ⊢; have := k3 hf.1; omega
              | some m => simp at hf ⊢; omega
          · cases h
        · cases h
      · cases h
    · cases h
  · rename_i hu
    split at h
    · rename_i b
      split at h
      · simp only [Option.map_eq_some_iff] at h
        obtain ⟨⟨l, hh, m⟩, hb, rfl⟩ := h
        simp only [RelV] at hx; subst hx
        obtain ⟨b1, b2, b3, b4, b5, b6⟩ := aBounds_sound (P := P) (isSlice := false) (Nat.le_refl b.size) h1 h2 h3 hb
        have hv : vmx = none := by cases vmx with | none => rfl | some _ => exact h3.elim
        subst hv
        refine Runs.quiet hok (u := .string (b.extract l hh)) (by simp [RelV]) ?_
        simp [Instr.sliceAt, Instr.slice, run_underlying hu, b6]
      · cases h
    · cases h
  · cases h
end Go.Hb
