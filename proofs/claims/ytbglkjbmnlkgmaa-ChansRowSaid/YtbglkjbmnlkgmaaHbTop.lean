import Derived.Test.YtbglkjbmnlkgmaaHbY
import Derived.Below
import Derived.ProofKit
import Derived.OpenShut
namespace Go.Hb
open Go Go.RowKit Go.ChangeShapes

/-- The world at a call's start: all that is there is kept. -/
def start (W : World) : Ctx where
  w := W
  kept b := b < W.heap.size
  lim b := match W.heap[b]? with | some (.cells vs _ _) => vs.size | _ => 0
  ρ _ := 0
  n := 0
  τ := []
  θ _ := ⟨0, 0, 0, 0⟩

theorem start_ok (W : World) : Ok (start W) [] where
  n := rfl
  obj i o h := by simp at h
  inj i j h := absurd h (Nat.not_lt_zero _)
  own i h := absurd h (Nat.not_lt_zero _)
  tip g h := absurd h (Nat.not_lt_zero _)
  tipinj g g' h := absurd h (Nat.not_lt_zero _)
  tipown g i h := absurd h (Nat.not_lt_zero _)
  kept b h := h
  lim b h := by
    have hb : W.heap.size ≤ b := h
    have : W.heap[b]? = none := by simpa using hb
    simp [start, this]

theorem top {P : Program} {f : FuncId} {args : List LV} {vs : Array Value} {W : World} {R : LV → List AObj → List Nat → Prop} (h : aCalls P f args [] [] R) (hv : RelVs (start W) args vs.toList) :
    Calls P f vs W fun e w' => Below W.heap.size W w' ∧ ∃ C x u s v, e = .returned u ∧ RelV C x u ∧ R x s v :=
  (h.2 (start W) vs (start_ok W) rfl hv).mono fun e w' ⟨C', x, u, s', v', k1, k2, k3, k4, k5, k6, k7⟩ => by
    subst k1
    exact ⟨⟨k3.os, k3.tape, k3.output, k3.size, fun k hk => k3.keep k hk⟩, C', x, u, s', v', k2, k6, k7⟩

section
variable {H : Type} {enc : TypeId × Value → H} {P : Program}
/-- What was there is as it was: the row's end, by 'Below'. -/
theorem post_below {f : Func} {s : ChangeSpec} {apart fresh handsOn again : Bool} {W W' : World} {args : Array Value} {v : Value} {ds gs : List (DataW H)} {before pa pv : List MemPlace}
    (hW : DataW.Whole enc P f.params.toList s.vars apart W args.toList ds gs before) (hB : Below W.heap.size W W')
    (hres : ∀ (b : Nat) (sp : Nat → Bool) (hd : Bool), DataW.TrodAll enc P W' b sp hd f.resultTypes.toList (v.resultList f.resultTypes.size) (s.fn H (ds ++ gs)).results [])
    (hargs : ∀ sp : Nat → Bool, (∀ p ∈ before, sp p.block = true) → DataW.TrodAll enc P W' 0 sp true f.params.toList args.toList (s.fn H (ds ++ gs)).args pa)
    (hvars : ∀ sp : Nat → Bool, (∀ p ∈ before, sp p.block = true) → DataW.TrodVars enc P W' sp s.vars (s.fn H (ds ++ gs)).vars pv)
    (hps : before = pa ++ pv)
    (hok : ∀ (j : Nat) (t : TypeId) (r : Value), f.resultTypes[j]? = some t → (v.resultList f.resultTypes.size)[j]? = some r → Value.okWide P W' .any 0 t r) :
    s.post enc P f apart fresh handsOn again W args v W' := by
  have hlt := hW.lt
  obtain ⟨p, q, hA, hV, hpq, hz, hn⟩ := id hW
  subst hps
  refine ⟨ds, gs, pa ++ pv, [], pa, pv, hW, hres _ _ _, hargs _ (fun p hp => by simpa using hlt p hp), hvars _ (fun p hp => by simpa using hlt p hp), World.keptBut_mono (fun p (h : False) => h.elim) (hB.frame fun _ => False), fun _ => ?_⟩
  refine ⟨hok, _, _, ([] ++ pa) ++ pv, ⟨[] ++ pa, pv, trodAll_append (hargs _ (fun _ _ => rfl)) (hres _ _ _), hvars _ (fun _ _ => rfl), rfl, ?_, ?_⟩, ?_⟩
  · intro b off hp
    have hb := hlt _ hp
    rw [hB.frozen (p := ⟨b, off, none⟩) hb]
    exact hz b off hp
  · exact hn
  · exact fun p hp _ => hp
end
end Go.Hb
