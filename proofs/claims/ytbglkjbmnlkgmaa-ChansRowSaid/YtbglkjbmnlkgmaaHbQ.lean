import Derived.Test.YtbglkjbmnlkgmaaHbP
namespace Go.Hb
open Go Go.RowKit

/-- A mark's block is shut. -/
def Ctx.shut (C : Ctx) (b : Nat) : Ctx := { C with w := { C.w with heap := C.w.heap.setIfInBounds b (.deferred none) }, kept := fun k => C.kept k ∧ k ≠ b }

theorem heap_shut (C : Ctx) (b k : Nat) (h : k ≠ b) : (C.shut b).w.heap[k]? = C.w.heap[k]? := by
  simp only [Ctx.shut]
  rw [Array.getElem?_setIfInBounds_ne (by omega)]

theorem cell_shut {C : Ctx} {b : Nat} (hb : C.w.heap[b]? = some (.deferred (some []))) (a : Addr) : (C.shut b).w.cell? a = C.w.cell? a := by
  by_cases h : a.block = b
  · subst h
    have hlt := (Array.getElem?_eq_some_iff.1 hb).1
    have h1 : (C.shut a.block).w.heap[a.block]? = some (.deferred none) := by simp [Ctx.shut, hlt]
    simp [World.cell?, hb, h1]
  · simp only [World.cell?, heap_shut C b _ h]

theorem wle_shut {C : Ctx} {b : Nat} (hb : C.w.heap[b]? = some (.deferred (some []))) : C.wle (C.shut b) :=
  ⟨fun _ => Nat.le_refl _, fun _ _ _ => cell_shut hb _, fun _ _ => rfl, Nat.le_refl _, fun _ e h => ⟨e, h, Nat.le_refl _, fun _ => rfl⟩⟩

theorem RelT.wmono {C C' : Ctx} (h : C.wle C') {t : Nat → LV} {tmps : Array Value} (r : RelT C t tmps) : RelT C' t tmps := fun i => RelV.wmono h _ _ (r i)

theorem RelO.wmono {C C' : Ctx} (h : C.wle C') {o : AObj} {b : Nat} (hb : C'.w.heap[b]? = C.w.heap[b]?) (r : RelO C o b) : RelO C' o b := by
  cases o with
  | cells cs =>
    obtain ⟨vs, T, us, ws, h1, h2, h3, h4⟩ := r
    exact ⟨vs, T, us, ws, hb.trans h1, h2, RelVs.wmono h _ _ h3, h4⟩
  | loop r' =>
    obtain ⟨L, h1, h2, h3, h4, h5, h6, h7, h8⟩ := r
    exact ⟨L, hb.trans h1, h2, h3, h4, h5, h6, h7, RelT.wmono h h8⟩

theorem Ok.shut {C : Ctx} {s : List AObj} (h : Ok C s) {b : Nat} (hk : C.kept b) (hb : C.w.heap[b]? = some (.deferred (some []))) : Ok (C.shut b) s where
  n := h.n
  obj i o ho := by
    have hin : i < C.n := by rw [h.n]; exact (List.getElem?_eq_some_iff.1 ho).1
    exact RelO.wmono (wle_shut hb) (heap_shut C b _ (fun e => (h.own i hin).1 (e ▸ hk))) (h.obj i o ho)
  inj := h.inj
  own i hi := by obtain ⟨a, b', c⟩ := h.own i hi; exact ⟨fun hh => a hh.1, b', by simpa [Ctx.shut] using c⟩
  tip g hg := by
    obtain ⟨a, b', vs, T, c, d⟩ := h.tip g hg
    exact ⟨fun hh => a hh.1, b', vs, T, (heap_shut C b (C.θ g).b (fun e => a (by rw [e]; exact hk))).trans c, d⟩
  tipinj := h.tipinj
  tipown := h.tipown
  kept b' hb' := by have := h.kept b' hb'.1; simpa [Ctx.shut] using this
  lim b' hb' := h.lim b' (by simpa [Ctx.shut] using hb')

theorem run_take {P : Program} {w : World} {b : Nat} (hb : w.heap[b]? = some (.deferred (some []))) : (Instr.takeDeferred b).run P w = .ok [] { w with heap := w.heap.setIfInBounds b (.deferred none) } := by
  simp [Instr.takeDeferred, getObj, setObj, Sem.run, hb, Sem.run_bind]

def vResult (tmps : Array Value) : ResultVar → Sem Value
  | .tmp t => pure (tmps.getD t undef)
  | .cell a t => do loadVar t (← asAddr (tmps.getD a undef))

theorem results_eq (fn : Func) (tmps : Array Value) : results fn tmps = (do
    let vs ← fn.results.mapM (vResult tmps)
    pure (if h : vs.size = 1 then vs[0] else .tuple vs)) := by
  unfold results
  congr 2

theorem RelRes {P : Program} {C : Ctx} {st : St} {a : Act} (hok : Ok C st.s) (hT : RelT C st.t a.tmps) : ∀ (rs : List ResultVar) (xs : List LV),
    rs.mapM (aResult P st) = some xs → ∃ vs, RelVs C xs vs ∧ (rs.mapM (vResult a.tmps)).run P C.w = .ok vs C.w := by
  intro rs
  induction rs with
  | nil => intro xs h; simp at h; subst h; exact ⟨[], rfl, rfl⟩
  | cons r rs ih =>
    intro xs h
    simp only [List.mapM_cons, Option.bind_eq_bind, Option.bind_eq_some_iff, Option.pure_def, Option.some.injEq] at h
    obtain ⟨x, hx, ys, hys, rfl⟩ := h
    obtain ⟨vs, h1, h2⟩ := ih ys hys
    cases r with
    | tmp t =>
      simp only [aResult, Option.some.injEq] at hx; subst hx
      refine ⟨_ :: vs, ⟨_, vs, rfl, hT t, h1⟩, ?_⟩
      simp only [List.mapM_cons, Sem.run_bind, vResult, Sem.run_pure, Result.andThen_ok]
      rw [h2]; rfl
    | cell p T =>
      simp only [aResult] at hx
      have hp := hT p
      obtain ⟨u, k1, k2, ad, k3⟩ := aLoad_quiet (P := P) hok hp hx
      rw [k3] at k2
      have k4 : (loadVar T ad).run P C.w = .ok u C.w := k2
      refine ⟨u :: vs, ⟨u, vs, rfl, k1, h1⟩, ?_⟩
      have k5 : (vResult a.tmps (.cell p T)).run P C.w = .ok u C.w := by
        simp only [vResult, Sem.run_bind, k3, asAddr, Sem.run_pure, Result.andThen_ok, k4]
      simp only [List.mapM_cons, Sem.run_bind]
      rw [k5]; simp only [Result.andThen_ok]; rw [h2]; rfl

theorem aCalls_of_body {P : Program} {f : FuncId} {fn : Func} {c : Code} {args : List LV} {s : List AObj} {v : List Nat} {R : LV → List AObj → List Nat → Prop} (hf : P.funcs[f]? = some fn) (hb : fn.body = some c) (hn : (fn.name == "runtime.NumGoroutine") = false) (hlen : args.length ≤ fn.ntmps)
    (h : aW P none fn.ntmps c (bodyQ P fn R) ⟨initT args, s, v⟩) : aCalls P f args s v R := by
  refine ⟨by simp [fnOk, hf, hb, hn], fun C vs h1 h2 h3 => ?_⟩
  have hvl : args.length = vs.size := by simpa using h3.length
  have hS : RelS C fn.ntmps C.w.heap.size (initT args) { tmps := vs ++ Array.replicate (fn.ntmps - vs.size) undef, defers := [] } := by
    refine ⟨by simp; omega, fun i => ?_, Nat.le_refl _, [], rfl, by simp, by simp⟩
    unfold initT
    by_cases hi : i < args.length
    · have hx : args[i]? = some args[i] := by simp [hi]
      obtain ⟨u, k1, k2⟩ := h3.get hx
      have hu : (vs ++ Array.replicate (fn.ntmps - vs.size) undef)[i]? = some u := by
        rw [Array.getElem?_append_left (by omega)]; simpa using k1
      rw [Array.getD_eq_getD_getElem?, hu]
      simpa [List.getD, hx] using k2
    · have : args.getD i (.tup []) = .tup [] := by simp [List.getD, List.getElem?_eq_none (Nat.le_of_not_lt hi)]
      rw [this]
      have hu : (vs ++ Array.replicate (fn.ntmps - vs.size) undef).getD i undef = undef := by
        rw [Array.getD_eq_getD_getElem?, Array.getElem?_append_right (by omega)]
        by_cases h9 : i - vs.size < fn.ntmps - vs.size
        · simp [h9]
        · simp [h9]
      rw [hu]; simp only [RelV]; exact ⟨#[], rfl, by simp [RelVs]⟩
  have hw := h C.w.heap.size C _ h1 h2 hS (fun l hl => by cases hl)
  have hfr : Fr C none = Fence.wide := rfl
  rw [hfr] at hw
  refine (callsIn_wide (n := 0)).1 (callsIn_of_wp_marks hf hb trivial (wpIn_mono hw ?_) rfl)
  rintro e a w ⟨C', st, rfl, k2, k3, k4, ⟨k5, k6, _, bs, k7, k8, k9⟩, k10⟩
  -- shutting the marks, one by one
  have key : ∀ (bs : List Nat) (C' : Ctx), (∀ b, C.kept b → C'.kept b ∧ C'.w.heap[b]? = C.w.heap[b]?) → C'.w.os = C.w.os → C'.w.tape = C.w.tape → C'.w.output = C.w.output → C.w.heap.size ≤ C'.w.heap.size → C.wle C' → Ok C' st.s → C'.τ = st.v → RelT C' st.t a.tmps → bs.Nodup →
      (∀ b ∈ bs, (C.w.heap.size ≤ b ∧ C'.kept b) ∧ C'.w.heap[b]? = some (.deferred (some []))) → (∃ x, aRes P fn st = some x ∧ R x st.s st.v) →
      LeavesInM Fence.wide 0 P fn a.tmps (fun e w' => ∃ C' x u s' v', C'.w = w' ∧ e = .returned u ∧ C.le C' ∧ Ok C' s' ∧ C'.τ = v' ∧ RelV C' x u ∧ R x s' v') (bs.map mark) .returning C'.w := by
    intro bs
    induction bs with
    | nil =>
      intro C' q1 q2 q3 q4 q5 q6 q7 q8 q9 _ _ ⟨x, r1, r2⟩
      simp only [List.map_nil, LeavesInM, LeavesIn]
      unfold aRes at r1
      simp only [Option.map_eq_some_iff] at r1
      obtain ⟨xs, hm, rfl⟩ := r1
      obtain ⟨us, u1, u2⟩ := RelRes (P := P) q7 q9 _ _ hm
      have hul := u1.length
      have hrun : (results fn a.tmps).run P C'.w = .ok (if h : us.toArray.size = 1 then us.toArray[0] else .tuple us.toArray) C'.w := by
        rw [results_eq, Array.mapM_eq_mapM_toList]
        simp only [Sem.run_bind, Sem.run_map, u2, Result.andThen_ok, Sem.run_pure]
      have hle : C.le C' := ⟨q2, q3, q4, q5, fun b hb => (q1 b hb).1, fun b hb => (q1 b hb).2, q6.lim, q6.cell, q6.ρ, q6.n, q6.τ⟩
      refine ⟨_, hrun, C', packed xs, _, st.s, st.v, rfl, rfl, hle, q7, q8, ?_, r2⟩
      match xs, u1, hul with
      | [y], u1, _ =>
        obtain ⟨w0, r', e1, e2, e3⟩ := u1
        simp only [RelVs] at e3
        subst e3; subst e1
        simpa [packed] using e2
      | [], u1, hul =>
        have : us = [] := List.eq_nil_of_length_eq_zero (by simpa using hul.symm)
        subst this
        simp only [packed, RelV]; exact ⟨#[], by simp, by simp [RelVs]⟩
      | y :: z :: l, u1, hul =>
        have hn1 : ¬ us.toArray.size = 1 := by simp at hul ⊢; omega
        rw [dif_neg hn1]
        simp only [packed, RelV]
        exact ⟨_, rfl, by simpa using u1⟩
    | cons b bs ih =>
      intro C' q1 q2 q3 q4 q5 q6 q7 q8 q9 q10 q11 q12
      have hb' := q11 b (by simp)
      simp only [List.map_cons, LeavesInM]
      refine ⟨by simp, .inl ⟨b, _, rfl, run_take hb'.2, ?_⟩⟩
      have hsh := ih (C'.shut b) (fun k hk => ?_) q2 q3 q4 (by simpa [Ctx.shut] using q5) ?_ (q7.shut hb'.1.2 hb'.2) q8 (RelT.wmono (wle_shut hb'.2) q9) (by simp at q10; exact q10.2) (fun k hk => ?_) q12
      · exact hsh
      · have hne : k ≠ b := fun e => by
          have := h1.kept k hk
          omega
        exact ⟨⟨(q1 k hk).1, hne⟩, (heap_shut _ _ _ hne).trans (q1 k hk).2⟩
      · have := wle_shut hb'.2
        exact ⟨q6.lim, fun b' o ho => (cell_shut hb'.2 _).trans (q6.cell b' o ho), q6.ρ, q6.n, q6.τ⟩
      · have hne : k ≠ b := fun e => by subst e; simp at q10; exact q10.1 hk
        have := q11 k (by simp [hk])
        exact ⟨⟨this.1.1, this.1.2, hne⟩, (heap_shut _ _ _ hne).trans this.2⟩
  have main : (∃ x, aRes P fn st = some x ∧ R x st.s st.v) → LeavesInM Fence.wide 0 P fn a.tmps (fun e w' => ∃ C' x u s' v', C'.w = w' ∧ e = .returned u ∧ C.le C' ∧ Ok C' s' ∧ C'.τ = v' ∧ RelV C' x u ∧ R x s' v') a.defers .returning C'.w := fun hr => by
    rw [k7]
    exact key bs C' (fun b hb => ⟨k2.kept b hb, k2.keep b hb⟩) k2.os k2.tape k2.output k2.size k2.weak k3 k4 k6 k8 k9 hr
  cases e with
  | normal => exact main k10
  | ret => exact main k10
  | exit _ => exact k10.elim
  | goto _ => exact k10.elim
  | panic _ => exact k10.elim
  | outgrown => exact k10.elim
end Go.Hb
