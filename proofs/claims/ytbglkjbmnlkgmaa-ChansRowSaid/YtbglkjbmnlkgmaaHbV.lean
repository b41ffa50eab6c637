import Derived.Test.YtbglkjbmnlkgmaaHbU
import Derived.RangeFuncRecord
namespace Go.Hb
open Go Go.RowKit

/-! ### a range over a function -/
def Ctx.hold (C : Ctx) (o : Obj) : Ctx := { C with w := C.w.alloc o, kept := fun b => C.kept b ∨ b = C.w.heap.size }

theorem Ok.le_hold {C : Ctx} {s : List AObj} (h : Ok C s) (o : Obj) : C.le (C.hold o) where
  os := rfl
  tape := rfl
  output := rfl
  size := by simp [Ctx.hold]
  kept b hb := .inl hb
  keep b hb := heap_old _ _ _ (h.kept b hb)
  lim b := Nat.le_refl _
  cell b o' ho := World.cell?_alloc_lt _ _ _ (h.cell_lt ho)
  ρ i hi := rfl
  n := Nat.le_refl _
  τ g e he := ⟨e, he, Nat.le_refl _, fun _ => rfl⟩

theorem Ok.hold {C : Ctx} {s : List AObj} (h : Ok C s) (o : Obj) : Ok (C.hold o) s where
  n := h.n
  obj i a ha := by
    have hin : i < C.n := by rw [h.n]; exact (List.getElem?_eq_some_iff.1 ha).1
    exact RelO.mono (h.le_hold o) (heap_old _ _ _ (h.own i hin).2.2) (h.obj i a ha)
  inj := h.inj
  own i hi := by
    obtain ⟨a, b, c⟩ := h.own i hi
    refine ⟨fun hk => ?_, b, by simp [Ctx.hold]; omega⟩
    rcases hk with hk | hk
    · exact a hk
    · have hk' : C.ρ i = C.w.heap.size := hk
      omega
  tip g hg := by
    obtain ⟨a, b, vs, T, c, d⟩ := h.tip g hg
    have hb := h.tip_lt hg
    refine ⟨fun hk => ?_, b, vs, T, (heap_old _ _ _ hb).trans c, d⟩
    rcases hk with hk | hk
    · exact a hk
    · have hk' : (C.θ g).b = C.w.heap.size := hk
      omega
  tipinj := h.tipinj
  tipown := h.tipown
  kept b hb := by
    rcases hb with hb | hb
    · have := h.kept b hb; simp [Ctx.hold]; omega
    · simp [Ctx.hold]; omega
  lim b hb := h.lim b (by simp [Ctx.hold] at hb; omega)

def Ctx.putO (C : Ctx) (b : Nat) (o : Obj) : Ctx := { C with w := C.w.putObj b o }

theorem Ctx.le_putO (C : Ctx) {b : Nat} (hk : ¬ C.kept b) (hl : C.lim b = 0) (o : Obj) : C.le (C.putO b o) where
  os := rfl
  tape := rfl
  output := rfl
  size := by simp [Ctx.putO, World.putObj]
  kept _ h := h
  keep b' hb := World.putObj_heap_other (by intro e; subst e; exact hk hb)
  lim _ := Nat.le_refl _
  cell b' o' ho := by
    have hne : b' ≠ b := by intro e; subst e; omega
    simp only [Ctx.putO, World.cell?, World.putObj_heap_other hne]
  ρ _ _ := rfl
  n := Nat.le_refl _
  τ g e he := ⟨e, he, Nat.le_refl _, fun _ => rfl⟩

theorem Ok.putO {C : Ctx} {s : List AObj} (h : Ok C s) {id : Nat} (hid : id < s.length) (hlv : C.lim (C.ρ id) = 0) (o : Obj) (ao : AObj) (hao : RelO (C.putO (C.ρ id) o) ao (C.ρ id)) : Ok (C.putO (C.ρ id) o) (s.set id ao) where
  n := by simpa [Ctx.putO] using h.n
  obj i a ha := by
    have hin : id < C.n := by rw [h.n]; exact hid
    have hl := C.le_putO (h.own id hin).1 hlv o
    by_cases e : i = id
    · subst e
      simp [hid] at ha
      subst ha; exact hao
    · rw [List.getElem?_set_ne (by omega)] at ha
      have hi : i < C.n := by rw [h.n]; exact (List.getElem?_eq_some_iff.1 ha).1
      exact RelO.mono hl (World.putObj_heap_other (fun e' => e (h.inj i id hi hin e'))) (h.obj i a ha)
  inj := h.inj
  own i hi := by
    obtain ⟨a, b, c⟩ := h.own i hi
    refine ⟨a, ?_, by simpa [Ctx.putO, World.putObj] using c⟩
    by_cases e : i = id
    · subst e; exact .inr hlv
    · exact b.imp (fun hb => by rw [List.getElem?_set_ne (by omega)]; exact hb) (fun hb => hb)
  tip g hg := by
    obtain ⟨a, b, vs', T', c, d⟩ := h.tip g hg
    exact ⟨a, b, vs', T', (World.putObj_heap_other (fun e => h.tipown g id hg (by rw [h.n]; exact hid) e.symm)).trans c, d⟩
  tipinj := h.tipinj
  tipown := h.tipown
  kept b hb := by have := h.kept b hb; simpa [Ctx.putO, World.putObj] using this
  lim b hb := h.lim b (by simpa [Ctx.putO, World.putObj] using hb)

/-- The record of a loop is written. -/
theorem loop_put {C : Ctx} {s : List AObj} (h : Ok C s) {l : Nat} {lp : ALoop} (hl : s[l]? = some (.loop lp)) : ∃ L : Loop, C.w.heap[C.ρ l]? = some (.loop L) ∧ L.state = lp.state ∧ L.pending = lp.pending ∧ L.params = lp.params ∧ L.assign = lp.assign ∧ L.body = lp.body ∧ L.tmps.size = lp.size ∧ RelT C lp.tmps L.tmps ∧
    ∀ (st : LoopState) (pd : Option Code), ∃ C', C'.w = C.w.putObj (C.ρ l) (.loop { L with state := st, pending := pd }) ∧ C.le C' ∧ Ok C' (s.set l (.loop { lp with state := st, pending := pd })) ∧ C'.τ = C.τ ∧ C'.n = C.n ∧ C'.ρ = C.ρ := by
  obtain ⟨L, h1, h2, h3, h4, h5, h6, h7, h8⟩ := h.obj l _ hl
  have hlt : l < s.length := (List.getElem?_eq_some_iff.1 hl).1
  have hln : l < C.n := by rw [h.n]; exact hlt
  have hown := h.own l hln
  refine ⟨L, h1, h2, h3, h4, h5, h6, h7, h8, fun st pd => ?_⟩
  have hlim : C.lim (C.ρ l) = 0 := hown.2.1.resolve_left fun hb => by rw [hl] at hb; cases hb
  have hle := C.le_putO hown.1 hlim (.loop { L with state := st, pending := pd })
  refine ⟨C.putO (C.ρ l) (.loop { L with state := st, pending := pd }), rfl, hle, h.putO hlt hlim _ _ ?_, rfl, rfl, rfl⟩
  exact ⟨{ L with state := st, pending := pd }, World.putObj_heap_same hown.2.2, rfl, rfl, h4, h5, h6, h7, RelT.mono hle h8⟩

def setParams : List (Tmp × LV) → (Nat → LV) → Nat → LV
  | [], t => t
  | (d, x) :: r, t => setParams r (upd d x t)

theorem setParams_rel {C : Ctx} : ∀ (ps : List Tmp) (xs : List LV) (vs : List Value) (t : Nat → LV) (tmps : Array Value), RelVs C xs vs → RelT C t tmps → (∀ d ∈ ps, d < tmps.size) →
    RelT C (setParams (ps.zip xs) t) ((ps.zip vs).foldl (fun tmps (t, a) => tmps.setIfInBounds t a) tmps) ∧ ((ps.zip vs).foldl (fun tmps (t, a) => tmps.setIfInBounds t a) tmps).size = tmps.size := by
  intro ps
  induction ps with
  | nil => intro xs vs t tmps _ h _; exact ⟨by simpa [setParams] using h, by simp⟩
  | cons d ps ih =>
    intro xs vs t tmps h1 h2 h3
    cases xs with
    | nil => simp [RelVs] at h1; subst h1; exact ⟨by simpa [setParams] using h2, by simp⟩
    | cons x xs =>
      obtain ⟨v, r, rfl, h4, h5⟩ := h1
      have := ih xs r (upd d x t) (tmps.setIfInBounds d v) h5 (h2.upd (h3 d (by simp)) h4) (fun d' hd' => by simpa using h3 d' (by simp [hd']))
      simp only [List.zip_cons_cons, List.foldl_cons, setParams]
      exact ⟨this.1, by simpa using this.2⟩

def roundQ (l : Nat) (R : LV → List AObj → List Nat → Prop) : Exit → St → Prop
  | .normal, st => ∃ lp, st.s[l]? = some (.loop lp) ∧ R (.bool true) (st.s.set l (.loop { lp with state := .ready, pending := none })) st.v
  | .ret, st => ∃ lp, st.s[l]? = some (.loop lp) ∧ R (.bool false) (st.s.set l (.loop { lp with state := .done, pending := some .ret })) st.v
  | .exit id, st => ∃ lp, st.s[l]? = some (.loop lp) ∧ R (.bool false) (st.s.set l (.loop { lp with state := .done, pending := some (.exit id) })) st.v
  | _, _ => False

theorem aRound_of {P : Program} {l : Nat} {args : List LV} {s : List AObj} {v : List Nat} {R : LV → List AObj → List Nat → Prop} {lp : ALoop} (hl : s[l]? = some (.loop lp)) (hn : args.length = lp.params.size) (hp : ∀ d ∈ lp.params, d < lp.size)
    (h : aW P (some l) lp.size lp.assign (aThen (fun st1 => ∃ lp1, st1.s[l]? = some (.loop lp1) ∧ lp1.state = .ready ∧ aW P (some l) lp.size lp.body (roundQ l R) ⟨st1.t, st1.s.set l (.loop { lp1 with state := .busy }), st1.v⟩) (fun _ _ => False))
      ⟨setParams (lp.params.toList.zip args) lp.tmps, s, v⟩) : aRound P l args s v R := by
  intro C vs h1 h2 h3
  have hlt : l < s.length := (List.getElem?_eq_some_iff.1 hl).1
  have hln : l < C.n := by rw [h1.n]; exact hlt
  obtain ⟨L, k1, k2, k3, k4, k5, k6, k7, k8, k9⟩ := loop_put h1 hl
  have hvl := h3.length
  refine ⟨hln, L.fn, _, L.assign, L.body, run_yield k1 (by rw [k4]; simp at hvl; omega), fun F hF => ?_⟩
  subst hF
  have hps := setParams_rel (C := C) lp.params.toList args vs.toList lp.tmps L.tmps h3 k8 (fun d hd => by rw [k7]; exact hp d (by simpa using hd))
  have htm : (L.params.zip vs).foldl (fun tmps (x : Tmp × Value) => tmps.setIfInBounds x.1 x.2) L.tmps = (lp.params.toList.zip vs.toList).foldl (fun tmps (t, a) => tmps.setIfInBounds t a) L.tmps := by
    rw [k4, ← Array.foldl_toList, Array.toList_zip]
  refine roundIn_of_wpIn trivial ?_
  have hw := h 0 C { tmps := (lp.params.toList.zip vs.toList).foldl (fun tmps (t, a) => tmps.setIfInBounds t a) L.tmps, defers := [] } h1 h2 ⟨by rw [hps.2, k7], hps.1, Nat.zero_le _, [], rfl, by simp, by simp⟩ (fun l' hl' => by cases hl'; exact hln)
  rw [k5, k6]
  have e1 : (Fr C none).inRound (C.ρ l) = Fr C (some l) := rfl
  rw [e1, htm]
  refine wpIn_mono hw ?_
  rintro e a w ⟨C1, st1, rfl, m1, m2, m3, m4, m5⟩
  cases e with
  | normal =>
    obtain ⟨lp1, n1, n2, n3⟩ := m5
    obtain ⟨L1, p1, p2, p3, p4, p5, p6, p7, p8, p9⟩ := loop_put m2 n1
    have hln1 : l < C1.n := Nat.lt_of_lt_of_le hln m1.n
    have hρ : C1.ρ l = C.ρ l := m1.ρ l hln
    obtain ⟨C2, q1, q2, q3, q4, q5, q6⟩ := p9 .busy lp1.pending
    refine ⟨C2.w, ?_, ?_⟩
    · rw [q1, ← hρ, ← p3]
      exact run_beginRound p1 (p2.trans n2)
    · have hw2 := n3 0 C2 a q3 (q4.trans m3) (RelS.mono q2 m4) (fun l' hl' => by cases hl'; rw [q5]; exact hln1)
      have e2 : Fr C2 (some l) = Fr C (some l) := by simp [Fr, q6, hρ]
      rw [e2] at hw2
      refine wpIn_mono hw2 ?_
      rintro e a w ⟨C3, st3, rfl, r1, r2, r3, r4, r5⟩
      have hρ3 : C3.ρ l = C.ρ l := by rw [r1.ρ l (by rw [q5]; exact hln1), q6, hρ]
      have fin : ∀ (jump : Option Code) (lp3 : ALoop) (bv : Bool), jump.isNone = bv → st3.s[l]? = some (.loop lp3) → R (.bool bv) (st3.s.set l (.loop { lp3 with state := if jump.isNone then .ready else .done, pending := jump })) st3.v →
          ∃ v w', (Instr.endRound (C.ρ l) jump).run P C3.w = .ok v w' ∧ ∃ C' x u s' v', C'.w = w' ∧ Ending.returned v = Ending.returned u ∧ C.le C' ∧ Ok C' s' ∧ C'.τ = v' ∧ RelV C' x u ∧ R x s' v' := by
        intro jump lp3 bv hb hs hR
        obtain ⟨L3, t1, t2, t3, t4, t5, t6, t7, t8, t9⟩ := loop_put r2 hs
        obtain ⟨C4, u1, u2, u3, u4, u5, u6⟩ := t9 (if jump.isNone then .ready else .done) jump
        refine ⟨_, _, run_endRound jump (by rw [← hρ3]; exact t1), C4, .bool bv, .bool bv, _, st3.v, ?_, by rw [hb], ((m1.trans q2).trans r1).trans u2, u3, u4.trans r3, relBool _, hR⟩
        rw [u1, hρ3]
      cases e with
      | normal => obtain ⟨lp3, hs, hR⟩ := r5; exact fin none lp3 true rfl hs hR
      | ret => obtain ⟨lp3, hs, hR⟩ := r5; exact fin (some .ret) lp3 false rfl hs hR
      | exit id => obtain ⟨lp3, hs, hR⟩ := r5; exact fin (some (.exit id)) lp3 false rfl hs hR
      | goto _ => exact r5.elim
      | panic _ => exact r5.elim
      | outgrown => exact r5.elim
  | exit _ => exact m5.elim
  | goto _ => exact m5.elim
  | ret => exact m5.elim
  | panic _ => exact m5.elim
  | outgrown => exact m5.elim

/-- What is asked behind the function that was ranged over. -/
def rangeQ (P : Program) (r : Option Nat) (N : Nat) (l : Nat) (t : Nat → LV) (Q : Exit → St → Prop) (s : List AObj) (v : List Nat) : Prop :=
  ∃ lp, s[l]? = some (.loop lp) ∧ lp.state ≠ .busy ∧ match lp.pending with
    | none => Q .normal ⟨t, s.set l (.loop { lp with state := .exhausted }), v⟩
    | some c => aW P r N c Q ⟨t, s.set l (.loop { lp with state := .exhausted }), v⟩

theorem aW_range {P : Program} {r : Option Nat} {N : Nat} {f : Operand} {params : Array Tmp} {assign body : Code} {Q : Exit → St → Prop} {st : St} {g : FuncId} {fa ca : List LV} (hf : aev st.t f = .fn (.func g) fa ca) (hr : r = none)
    (h : aCalls P g (fa ++ [.yld st.s.length] ++ ca) (st.s ++ [.loop ⟨.ready, none, st.t, N, params, assign, body⟩]) st.v fun _ s v => rangeQ P r N st.s.length st.t Q s v) : aW P r N (.rangeFunc f params assign body) Q st := by
  subst hr
  intro B C a h1 h2 h3 h4
  obtain ⟨a1, a2, a0, bs, a3, a4, a5⟩ := h3
  refine wpIn_rangeFunc fun fn _ => ?_
  have hfv := aev_rel a2 f
  rw [hf] at hfv; simp only [RelV] at hfv
  obtain ⟨fs, cs, hv, hr1, hr2⟩ := hfv
  let D := C.w.heap.size
  let C1 := C.hold (.deferred (some []))
  have hle1 := h1.le_hold (.deferred (some []))
  have hok1 := h1.hold (.deferred (some []))
  let Lo : Obj := .loop { state := .ready, pending := none, fn, tmps := a.tmps, params, assign, body, defers := D }
  have hle2 := hok1.le_push Lo
  have hsz1 : C1.w.heap.size = D + 1 := by simp [C1, Ctx.hold, D]
  have hok2 : Ok (C1.push Lo) (st.s ++ [.loop ⟨.ready, none, st.t, N, params, assign, body⟩]) := hok1.push Lo _ ⟨_, heap_new _ _, rfl, rfl, rfl, rfl, rfl, a1, RelT.mono (hle1.trans hle2) a2⟩
  let C2 := C1.push Lo
  have hle : C.le C2 := hle1.trans hle2
  have hn0 : C.n = st.s.length := h1.n
  have hρ : C2.ρ st.s.length = D + 1 := by
    have : C1.n = st.s.length := hok1.n
    show (if st.s.length = C1.n then C1.w.heap.size else C1.ρ st.s.length) = D + 1
    rw [if_pos this.symm, hsz1]
  have hyld : RelV C2 (.yld st.s.length) (.func (.yield (D + 1)) #[] #[]) := by
    simp only [RelV]
    refine ⟨?_, by rw [hρ]⟩
    show st.s.length < C1.n + 1
    have : C1.n = st.s.length := hok1.n
    omega
  have hargs : RelVs C2 (fa ++ [.yld st.s.length] ++ ca) (fs ++ #[Value.func (.yield (D + 1)) #[] #[]] ++ cs).toList := by
    simp only [Array.toList_append]
    exact ((RelVs.mono hle _ _ hr1).app (RelVs.one hyld)).app (RelVs.mono hle _ _ hr2)
  refine ⟨D + 1, [mark D], C2.w, { target := .fn (.func g) cs, args := fs ++ #[Value.func (.yield (D + 1)) #[] #[]] }, C2.w, g, fs ++ #[Value.func (.yield (D + 1)) #[] #[]] ++ cs, C2.w, ?_, ?_, fun _ _ => trivial, ?_, fun hh => by simp [Fr, Fence.wide] at hh, callsIn_Fr ?_⟩
  · exact run_enterLoop_outer (P := P) (w := C.w) fn a.tmps params assign body
  · have e1 : a.eval (.const (.func (.yield (D + 1)) #[] #[])) = .func (.yield (D + 1)) #[] #[] := rfl
    simp only [resolve, hv, Deferred.ofValue, List.map_toArray, List.map_cons, List.map_nil, e1, Sem.run_pure]
  · exact run_callFunc h.1 _ _
  · refine (h.2 C2 _ hok2 h2 hargs).mono ?_
    rintro e w' ⟨C3, x, u, s', v', rfl, rfl, k3, k4, k5, k6, lp, m1, m2, m3⟩
    obtain ⟨L, p1, p2, p3, p4, p5, p6, p7, p8, p9⟩ := loop_put k4 m1
    have hlt2 : st.s.length < C2.n := by
      show st.s.length < C1.n + 1
      have : C1.n = st.s.length := hok1.n
      omega
    have hρ3 : C3.ρ st.s.length = D + 1 := by rw [k3.ρ _ hlt2, hρ]
    obtain ⟨C4, q1, q2, q3, q4, q5, q6⟩ := p9 .exhausted lp.pending
    have hle4 : C.le C4 := (hle.trans k3).trans q2
    have hD : C2.kept D := .inr rfl
    have hDobj : C2.w.heap[D]? = some (.deferred (some [])) := (heap_old C1.w Lo D (by rw [hsz1]; omega)).trans (heap_new C.w _)
    have hle24 := k3.trans q2
    have hS : RelS C4 N B st.t { a with defers := [mark D] ++ a.defers } := by
      refine ⟨a1, RelT.mono hle4 a2, Nat.le_trans a0 hle4.size, D :: bs, by simp [a3], ?_, ?_⟩
      · refine List.nodup_cons.2 ⟨fun hh => ?_, a4⟩
        have := (a5 D hh).1.2
        have := h1.kept D this
        simp only [D] at this; omega
      · intro b hb
        rcases List.mem_cons.1 hb with rfl | hb
        · exact ⟨⟨a0, hle24.kept _ hD⟩, (hle24.keep _ hD).trans hDobj⟩
        · have := a5 b hb
          exact ⟨⟨this.1.1, hle4.kept _ this.1.2⟩, (hle4.keep _ this.1.2).trans this.2⟩
    have hend := run_endLoop (P := P) p1 (by rw [p2]; exact m2)
    rw [hρ3] at hend q1
    refine ⟨_, C4.w, by rw [q1, ← p3]; exact hend, ?_⟩
    rw [p3]
    cases hp : lp.pending with
    | none =>
      rw [hp] at m3 q3
      exact ⟨C4, ⟨st.t, _, v'⟩, rfl, hle4, q3, q4.trans k5, hS, m3⟩
    | some c =>
      rw [hp] at m3 q3
      have := m3 B C4 _ q3 (q4.trans k5) hS (fun l hl => by cases hl)
      have e2 : Fr C4 none = Fr C none := rfl
      rw [e2] at this
      exact wpIn_mono this fun e a w hl => Lift.from hle4 hl
end Go.Hb
