import Derived.Test.YtbglkjbmnlkgmaaHbX
namespace Go.Hb
open Go Go.RowKit

theorem stepR_scope {P : Program} {b : Frame} {a : Act} {k : List Item} {cs : List Frame} {w : World} {c : Code} :
    step P (lone (b.atR a (.code (.scope c) :: k)) cs w) = .next (lone (b.atR a (.code c :: .inScope c :: k)) cs w) :=
  step_lone_go (by simp [stepG, stepG.exec, Frame.atR])
theorem stepR_inScope {P : Program} {b : Frame} {a : Act} {k : List Item} {cs : List Frame} {w : World} {c : Code} :
    step P (lone (b.atR a (.inScope c :: k)) cs w) = .next (lone (b.atR a k) cs w) :=
  step_lone_go (by simp [stepG, stepG.exec, Frame.atR])

theorem wpIn_scope {F : Fence} {n : Nat} {P : Program} {Q : Exit → Act → World → Prop} {a : Act} {w : World} {c : Code} (h : c.wpIn F n P (Exit.noGoto Q) a w) : (Code.scope c).wpIn F n P Q a w := by
  intro b k cs hro hb hr
  have h0 : (lone (b.atR a (.code (.scope c) :: k)) cs w).fenced P F := fenced_calm hb hr rfl
  obtain ⟨e, a₁, w₁, hq, harr⟩ := h b (.inScope c :: k) cs hro hb hr
  cases e with
  | normal => exact ⟨.normal, a₁, w₁, hq, .head h0 stepR_scope (StepsIn.trans harr (.one (fenced_calm hb hr rfl) stepR_inScope))⟩
  | exit id =>
    have hx : exitTo id (.inScope c :: k) = exitTo id k := by simp [exitTo]
    exact ⟨.exit id, a₁, w₁, hq, fun k' hk => .head h0 stepR_scope (harr.1 k' (by rw [hx]; exact hk)),
      fun hr' hk => let ⟨k₁, h1, h2⟩ := harr.2 hr' (by rw [hx]; exact hk); ⟨k₁, h1, .head h0 stepR_scope h2⟩⟩
  | goto l => exact hq.elim
  | ret => exact ⟨_, a₁, w₁, hq, .of_steps (.one h0 stepR_scope) harr⟩
  | panic ch => exact ⟨_, a₁, w₁, hq, .of_steps (.one h0 stepR_scope) harr⟩
  | outgrown => exact ⟨_, a₁, w₁, hq, .of_steps (.one h0 stepR_scope) harr⟩

@[simp] def aScope (Q : Exit → St → Prop) : Exit → St → Prop
  | .goto _, _ => False
  | e, st => Q e st

theorem aW_scope {P : Program} {r : Option Nat} {N : Nat} {c : Code} {Q : Exit → St → Prop} {st : St} (h : aW P r N c (aScope Q) st) : aW P r N (.scope c) Q st := fun B C a h1 h2 h3 h4 =>
  wpIn_scope (wpIn_mono (h B C a h1 h2 h3 h4) fun e a' w ⟨C', st', k1, k2, k3, k4, k5, k6⟩ => by
    cases e with
    | goto l => exact k6.elim
    | _ => exact ⟨C', st', k1, k2, k3, k4, k5, k6⟩)

theorem aW_scopeC {P : Program} {r : Option Nat} {N : Nat} {c : Code} {Q : Exit → St → Prop} {st : St} (own : Bool) (h : aC P r N own c (aScope Q) st) : aW P r N (.scope c) Q st := aW_scope (aC_sound _ _ _ h)

theorem aRound_mono {P : Program} {l : Nat} {args : List LV} {s : List AObj} {v : List Nat} {R R' : LV → List AObj → List Nat → Prop} (h : aRound P l args s v R) (hr : ∀ x s v, R x s v → R' x s v) : aRound P l args s v R' := fun C vs h1 h2 h3 => by
  obtain ⟨k1, fn, tmps, assign, body, k2, k3⟩ := h C vs h1 h2 h3
  exact ⟨k1, fn, tmps, assign, body, k2, fun F hF => (k3 F hF).mono fun e w' ⟨C', x, u, s', v', m1, m2, m3, m4, m5, m6, m7⟩ => ⟨C', x, u, s', v', m1, m2, m3, m4, m5, m6, hr _ _ _ m7⟩⟩
end Go.Hb
