import Derived.Test.YtbglkjbmnlkgmaaHbO
namespace Go.Hb
open Go Go.RowKit

theorem callsIn_Fr {P : Program} {C : Ctx} {r : Option Nat} {f : FuncId} {args : Array Value} {w : World} {R : Ending → World → Prop} {n : Nat} (h : Calls P f args w R) : CallsIn (Fr C r) n P f args w R := by
  have h1 : CallsIn Fence.wide n P f args w R := callsIn_wide.2 h
  cases r with
  | none => exact h1
  | some l => exact CallsIn.inRound (C.ρ l) h1

def Lift1 (C0 : Ctx) (N B : Nat) (K : St → Prop) : Act → World → Prop :=
  fun a w => ∃ C st, C.w = w ∧ C0.le C ∧ Ok C st.s ∧ C.τ = st.v ∧ RelS C N B st.t a ∧ K st

theorem resolve_value {P : Program} {ρ : Operand → Value} {c : Call} {f : Operand} (hc : c.callee = .value f) {fn : Fn} {fs cs : Array Value} (hv : ρ f = .func fn fs cs) (ty : TypeId) (w : World) :
    (do let d ← resolve ρ c ty; invoke d.target d.args : Sem Next).run P w = (invoke (.fn fn cs) (fs ++ c.args.map ρ)).run P w := by
  simp [resolve, hc, hv, Deferred.ofValue]

theorem aOper_sound {P : Program} {r : Option Nat} {N : Nat} {ops : Array Oper} {i : Nat} {o : Oper} {st : St} {K : St → Prop} {own : Bool} (Q' : Exit → Act → World → Prop) (ho : ops[i]? = some o) (h : aOper P N ops o st K own) :
    ∀ B C a, Ok C st.s → C.τ = st.v → RelS C N B st.t a → rOk C.n r → wpOpIn (Fr C r) 0 P ops Q' i (Lift1 C N B K) a C.w := by
  intro B C a h1 h2 h3 h4
  obtain ⟨hd, h⟩ := h
  unfold wpOpIn
  simp only [ho]
  cases hg : aGuard ops st.t o with
  | none => simp [hg] at h
  | some b =>
    have hw := aGuard_sound h3 hg
    rw [hg] at h
    cases b with
    | false =>
      simp only at h
      rw [if_neg (by simp [hw])]
      refine ⟨fun _ _ => trivial, C, ⟨updO o.dst (.tup []) st.t, st.s, st.v⟩, rfl, .refl C, h1, h2, ?_, h⟩
      exact h3.put (x := .tup []) (v := undef) hd (by simp only [RelV]; exact ⟨#[], rfl, by simp [RelVs]⟩)
    | true =>
      simp only at h
      rw [if_pos hw]
      refine ⟨fun _ _ => trivial, ?_⟩
      have hnd : ∀ c, o.op ≠ .defer c := by
        intro c e
        simp [callee, e] at h
      rw [Oper.semAt_eq _ _ _ hnd]
      cases hc : callee o.op st.t with
      | bad => simp [hc] at h
      | no =>
        simp only [hc] at h
        cases ha : aopO P own o.op st with
        | none => simp [ha] at h
        | some y =>
          obtain ⟨x, s, v⟩ := y
          simp only [ha] at h
          obtain ⟨C', u, k1, k2, k3, k4, k5⟩ := aopO_sound (o := o) h1 h2 h3.2.1 ha
          rcases k5 with k5 | ⟨k5, rfl⟩
          · rw [k5]; exact ⟨C', _, rfl, k1, k2, k3, (h3.mono k1).put hd k4, h⟩
          · rw [k5]; exact ⟨C', _, rfl, k1, k2, k3, (h3.mono k1).put hd k4, h⟩
      | func f args =>
        simp only [hc] at h
        unfold callee at hc
        split at hc
        · rename_i c hop
          split at hc
          · rename_i g hcal
            split at hc
            · rename_i g' fa ca hg'
              simp only [Callee'.func.injEq] at hc
              obtain ⟨rfl, rfl⟩ := hc
              have hr := aev_rel h3.2.1 g
              rw [hg'] at hr; simp only [RelV] at hr
              obtain ⟨fs, cs, hv, hr1, hr2⟩ := hr
              have hex : (execOp a.eval o).run P C.w = .ok (.enter g' (fs ++ c.args.map a.eval ++ cs)) C.w := by
                unfold execOp
                simp only [hop]
                rw [resolve_value hcal hv]
                simp only [invoke]
                exact run_callFunc h.1 _ _
              rw [hex, Oper.uponIn_enter]
              refine ⟨fun hh => by cases r <;> simp [Fr, Fence.wide] at hh, callsIn_Fr ?_⟩
              have hargs : RelVs C (fa ++ c.args.toList.map (aev st.t) ++ ca) (fs ++ c.args.map a.eval ++ cs).toList := by
                simp only [Array.toList_append]
                exact (hr1.app (RelVs.mk h3.2.1 c.args)).app hr2
              refine (h.2 C _ h1 h2 hargs).mono ?_
              rintro e w' ⟨C', x, u, s', v', rfl, rfl, k3, k4, k5, k6, k7⟩
              exact ⟨C', _, rfl, k3, k4, k5, (h3.mono k3).put hd k6, k7⟩
            · cases hc
            · cases hc
          · cases hc
          · cases hc
        · cases hc
        · cases hc
        · cases hc
      | yld l args =>
        simp only [hc] at h
        unfold callee at hc
        split at hc
        · rename_i c hop
          split at hc
          · rename_i g hcal
            split at hc
            · cases hc
            · rename_i l' hg'
              simp only [Callee'.yld.injEq] at hc
              obtain ⟨rfl, rfl⟩ := hc
              have hr := aev_rel h3.2.1 g
              rw [hg'] at hr; simp only [RelV] at hr
              obtain ⟨hl, hv⟩ := hr
              have hargs := RelVs.mk h3.2.1 c.args
              obtain ⟨_, fn, tmps, assign, body, hy, hround⟩ := h C _ h1 h2 hargs
              have hex : (execOp a.eval o).run P C.w = .ok (.round (C.ρ l') fn tmps assign body) C.w := by
                unfold execOp
                simp only [hop]
                rw [resolve_value hcal hv]
                simp only [invoke]
                rw [show (#[] : Array Value) ++ c.args.map a.eval = c.args.map a.eval from by simp]
                exact hy
              rw [hex, Oper.uponIn_round]
              refine ⟨fun hh => by cases r <;> simp [Fr, Fence.wide] at hh, ?_⟩
              refine RoundIn.mono (F := Fr C r) (show RoundIn (Fr C r) 0 P (C.ρ l') fn tmps assign body C.w _ from by
                have h9 := hround (Fr C none) rfl
                cases r with
                | none => exact h9
                | some l0 => exact h9) ?_
              rintro e w' ⟨C', x, u, s', v', rfl, rfl, k3, k4, k5, k6, k7⟩
              exact ⟨C', _, rfl, k3, k4, k5, (h3.mono k3).put hd k6, k7⟩
            · cases hc
          · cases hc
          · cases hc
        · cases hc
        · cases hc
        · cases hc

/-! ### a region in the text's order -/
def aL (P : Program) (N : Nat) (ops : Array Oper) (own : Bool) : List Oper → (St → Prop) → St → Prop
  | [], K, st => K st
  | o :: rest, K, st => aOper P N ops o st (aL P N ops own rest K) own

theorem aL_sound {P : Program} {r : Option Nat} {N : Nat} {ops : Array Oper} {own : Bool} {Q : Exit → St → Prop} (B : Nat) (C0 : Ctx) (h4 : rOk C0.n r) : ∀ (l : List Oper) (k : Nat) (C : Ctx) (a : Act) (st : St), C0.le C → ops.toList.drop k = l → Ok C st.s → C.τ = st.v → RelS C N B st.t a → aL P N ops own l (Q .normal) st →
      wpOpsIn (Fr C0 r) 0 P ops (Lift C0 N B Q) (List.range' k l.length) a C.w := by
  intro l
  induction l with
  | nil => intro k C a st hle _ h1 h2 h3 h; exact ⟨C, st, rfl, hle, h1, h2, h3, h⟩
  | cons o rest ih =>
    intro k C a st hle hl h1 h2 h3 h
    have ho : ops[k]? = some o := by
      have : ops.toList[k]? = some o := by
        have := congrArg (fun l => l[0]?) hl
        simpa using this
      simpa using this
    have hrest : ops.toList.drop (k + 1) = rest := by
      have := congrArg List.tail hl
      simpa using this
    rw [show List.range' k (o :: rest).length = k :: List.range' (k + 1) rest.length from by simp [List.range'_succ], wpOpsIn_cons]
    have hs := aOper_sound (r := r) (Lift C0 N B Q) ho h B C a h1 h2 h3 (rOk.mono hle h4)
    rw [Fr.eq hle h4] at hs
    refine wpOpIn_mono ?_ hs
    rintro a' w' ⟨C', st', rfl, k2, k3, k4, k5, k6⟩
    exact ih (k + 1) C' a' st' (hle.trans k2) hrest k3 k4 k5 k6

theorem aW_region {P : Program} {r : Option Nat} {N id : Nat} {ops : Array Oper} {own : Bool} {Q : Exit → St → Prop} {st : St} (h : aL P N ops own ops.toList (Q .normal) st) : aW P r N (.region id ops false) Q st := by
  intro B C a h1 h2 h3 h4
  refine wpIn_region ?_
  have := aL_sound B C h4 ops.toList 0 C a st (.refl C) (by simp) h1 h2 h3 h
  rw [List.range_eq_range']
  simpa using this

/-! ### functions -/
def initT (args : List LV) : Nat → LV := fun i => args.getD i (.tup [])

def aResult (P : Program) (st : St) : ResultVar → Option LV
  | .tmp i => some (st.t i)
  | .cell a T => aLoad P T (st.t a) st.s

def packed : List LV → LV
  | [x] => x
  | xs => .tup xs

/-- What a function's results read as. -/
def aRes (P : Program) (fn : Func) (st : St) : Option LV := (fn.results.toList.mapM (aResult P st)).map packed

def bodyQ (P : Program) (fn : Func) (R : LV → List AObj → List Nat → Prop) : Exit → St → Prop
  | .normal, st | .ret, st => ∃ x, aRes P fn st = some x ∧ R x st.s st.v
  | _, _ => False
end Go.Hb
