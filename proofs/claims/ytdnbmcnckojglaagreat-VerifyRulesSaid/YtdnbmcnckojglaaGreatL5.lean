/-
  A layer for reasoning about the program's calls, and contracts of its functions (L5). CONDITIONS: none; each theorem bears its own.
-/
import Derived.Test.YtdnbmcnckojglaaGreatL4
import Derived.RangeFuncRecord
import Derived.Below
import Derived.ProofKit
import Derived.OpenShut
import Derived.Deep.Grids
import Derived.Carry
import Derived.WideKeyArgs
import Derived.WideShapes
import Derived.SizedLaws
import Derived.WalkKit
set_option linter.unusedVariables false
set_option linter.unusedSimpArgs false
section
namespace Go.Hb
open Go Go.RowKit

def Ctx.hold (C : Ctx) (o : Obj) : Ctx := { C with w := C.w.alloc o, kept := fun b => C.kept b ∨ b = C.w.heap.size }

theorem Ok.le_hold {C : Ctx} {s : List AObj} (h : Ok C s) (o : Obj) : C.le (C.hold o) where
 os := rfl
 tape := rfl
 output := rfl
 size := by simp [Ctx.hold]
 kept b hb := .inl hb
 keep b hb := heap_old _ _ _ (h.kept b hb)
 lim b := Nat.le_refl _
 cell b o' ho := World.cell?_alloc_lt _ _ _ (h.cell_lt ho)
 ρ i hi := rfl
 n := Nat.le_refl _
 τ g e he := ⟨e, he, Nat.le_refl _, fun _ => rfl⟩
 room b := bs_alloc _ _ b

theorem Ok.hold {C : Ctx} {s : List AObj} (h : Ok C s) (o : Obj) : Ok (C.hold o) s where
 n := h.n
 obj i a ha := by
  have hin : i < C.n := by rw [h.n]; exact (List.getElem?_eq_some_iff.1 ha).1
  exact RelO.mono (h.le_hold o) (heap_old _ _ _ (h.own i hin).2.2) (h.obj i a ha)
 inj := h.inj
 own i hi := by
  obtain ⟨a, b, c⟩ := h.own i hi
  refine ⟨fun hk => ?_, b, by simp [Ctx.hold]; omega⟩
  rcases hk with hk | hk
  ·exact a hk
  ·have hk' : C.ρ i = C.w.heap.size := hk
   omega
 tip g hg := by
  obtain ⟨a, b, vs, T, c, d⟩ := h.tip g hg
  have hb := h.tip_lt hg
  refine ⟨fun hk => ?_, b, vs, T, (heap_old _ _ _ hb).trans c, d⟩
  rcases hk with hk | hk
  ·exact a hk
  ·have hk' : (C.θ g).b = C.w.heap.size := hk
   omega
 tipinj := h.tipinj
 tipown := h.tipown
 kept b hb := by
  rcases hb with hb | hb
  ·have := h.kept b hb; simp [Ctx.hold]; omega
  ·simp [Ctx.hold]; omega
 lim b hb := h.lim b (by simp [Ctx.hold] at hb; omega)

theorem loop_put {C : Ctx} {s : List AObj} (h : Ok C s) {l : Nat} {lp : ALoop} (hl : s[l]? = some (.loop lp)) : ∃ L : Loop, C.w.heap[C.ρ l]? = some (.loop L) ∧ L.state = lp.state ∧ L.pending = lp.pending ∧ L.params = lp.params ∧ L.assign = lp.assign ∧ L.body = lp.body ∧ L.tmps.size = lp.size ∧ RelT C lp.tmps L.tmps ∧
  ∀ (st : LoopState) (pd : Option Code), ∃ C', C'.w = C.w.putObj (C.ρ l) (.loop { L with state := st, pending := pd }) ∧ C.le C' ∧ Ok C' (s.set l (.loop { lp with state := st, pending := pd })) ∧ C'.τ = C.τ ∧ C'.n = C.n ∧ C'.ρ = C.ρ := by
 obtain ⟨L, h1, h2, h3, h4, h5, h6, h7, h8⟩ := h.obj l _ hl
 have hlt : l < s.length := (List.getElem?_eq_some_iff.1 hl).1
 have hln : l < C.n := by rw [h.n]; exact hlt
 have hown := h.own l hln
 refine ⟨L, h1, h2, h3, h4, h5, h6, h7, h8, fun st pd => ?_⟩
 have hlim : C.lim (C.ρ l) = 0 := hown.2.1.resolve_left fun hb => by rw [hl] at hb; cases hb
 have h0 : bs C.w (C.ρ l) = 0 := by unfold bs; rw [h1]
 have hle := C.le_putO hown.1 hlim h0 (.loop { L with state := st, pending := pd })
 refine ⟨C.putO (C.ρ l) (.loop { L with state := st, pending := pd }), rfl, hle, h.putO hlt hl (fun _ h => by cases h) (fun _ h => by cases h) hlim h0 _ ?_, rfl, rfl, rfl⟩
 exact ⟨{ L with state := st, pending := pd }, World.putObj_heap_same hown.2.2, rfl, rfl, h4, h5, h6, h7, RelT.mono hle h8⟩

def setParams : List (Tmp × LV) → (Nat → LV) → Nat → LV
 | [], t => t
 | (d, x) :: r, t => setParams r (upd d x t)

theorem setParams_rel {C : Ctx} : ∀ (ps : List Tmp) (xs : List LV) (vs : List Value) (t : Nat → LV) (tmps : Array Value), RelVs C xs vs → RelT C t tmps → (∀ d ∈ ps, d < tmps.size) →
  RelT C (setParams (ps.zip xs) t) ((ps.zip vs).foldl (fun tmps (t, a) => tmps.setIfInBounds t a) tmps) ∧ ((ps.zip vs).foldl (fun tmps (t, a) => tmps.setIfInBounds t a) tmps).size = tmps.size := by
 intro ps
 induction ps with
 | nil => intro xs vs t tmps _ h _; exact ⟨by simpa [setParams] using h, by simp⟩
 | cons d ps ih =>
  intro xs vs t tmps h1 h2 h3
  cases xs with
  | nil => simp [RelVs] at h1; subst h1; exact ⟨by simpa [setParams] using h2, by simp⟩
  | cons x xs =>
   obtain ⟨v, r, rfl, h4, h5⟩ := h1
   have := ih xs r (upd d x t) (tmps.setIfInBounds d v) h5 (h2.upd (h3 d (by simp)) h4) (fun d' hd' => by simpa using h3 d' (by simp [hd']))
   simp only [List.zip_cons_cons, List.foldl_cons, setParams]
   exact ⟨this.1, by simpa using this.2⟩

def roundQ (l : Nat) (R : LV → List AObj → List Nat → Prop) : Exit → St → Prop
 | .normal, st => ∃ lp, st.s[l]? = some (.loop lp) ∧ R (.bool true) (st.s.set l (.loop { lp with state := .ready, pending := none })) st.v
 | .ret, st => ∃ lp, st.s[l]? = some (.loop lp) ∧ R (.bool false) (st.s.set l (.loop { lp with state := .done, pending := some .ret })) st.v
 | .exit id, st => ∃ lp, st.s[l]? = some (.loop lp) ∧ R (.bool false) (st.s.set l (.loop { lp with state := .done, pending := some (.exit id) })) st.v
 | _, _ => False

theorem aRound_of {P : Program} {l : Nat} {args : List LV} {s : List AObj} {v : List Nat} {R : LV → List AObj → List Nat → Prop} {lp : ALoop} (hl : s[l]? = some (.loop lp)) (hn : args.length = lp.params.size) (hp : ∀ d ∈ lp.params, d < lp.size)
  (h : aW P (some l) lp.size lp.assign (aThen (fun st1 => ∃ lp1, st1.s[l]? = some (.loop lp1) ∧ lp1.state = .ready ∧ aW P (some l) lp.size lp.body (roundQ l R) ⟨st1.t, st1.s.set l (.loop { lp1 with state := .busy }), st1.v⟩) (fun _ _ => False))
   ⟨setParams (lp.params.toList.zip args) lp.tmps, s, v⟩) : aRound P l args s v R := by
 intro C vs h1 h2 h3
 have hlt : l < s.length := (List.getElem?_eq_some_iff.1 hl).1
 have hln : l < C.n := by rw [h1.n]; exact hlt
 obtain ⟨L, k1, k2, k3, k4, k5, k6, k7, k8, k9⟩ := loop_put h1 hl
 have hvl := h3.length
 refine ⟨hln, L.fn, _, L.assign, L.body, run_yield k1 (by rw [k4]; simp at hvl; omega), fun F hF => ?_⟩
 subst hF
 have hps := setParams_rel (C := C) lp.params.toList args vs.toList lp.tmps L.tmps h3 k8 (fun d hd => by rw [k7]; exact hp d (by simpa using hd))
 have htm : (L.params.zip vs).foldl (fun tmps (x : Tmp × Value) => tmps.setIfInBounds x.1 x.2) L.tmps = (lp.params.toList.zip vs.toList).foldl (fun tmps (t, a) => tmps.setIfInBounds t a) L.tmps := by
  rw [k4, ← Array.foldl_toList, Array.toList_zip]
 refine roundIn_of_wpIn trivial ?_
 have hw := h 0 C { tmps := (lp.params.toList.zip vs.toList).foldl (fun tmps (t, a) => tmps.setIfInBounds t a) L.tmps, defers := [] } h1 h2 ⟨by rw [hps.2, k7], hps.1, Nat.zero_le _, [], rfl, by simp, by simp⟩ (fun l' hl' => by cases hl'; exact hln)
 rw [k5, k6]
 have e1 : (Fr C none).inRound (C.ρ l) = Fr C (some l) := rfl
 rw [e1, htm]
 refine wpIn_mono hw ?_
 rintro e a w ⟨C1, st1, rfl, m1, m2, m3, m4, m5⟩
 cases e with
 | normal =>
  obtain ⟨lp1, n1, n2, n3⟩ := m5
  obtain ⟨L1, p1, p2, p3, p4, p5, p6, p7, p8, p9⟩ := loop_put m2 n1
  have hln1 : l < C1.n := Nat.lt_of_lt_of_le hln m1.n
  have hρ : C1.ρ l = C.ρ l := m1.ρ l hln
  obtain ⟨C2, q1, q2, q3, q4, q5, q6⟩ := p9 .busy lp1.pending
  refine ⟨C2.w, ?_, ?_⟩
  ·rw [q1, ← hρ, ← p3]
   exact run_beginRound p1 (p2.trans n2)
  ·have hw2 := n3 0 C2 a q3 (q4.trans m3) (RelS.mono q2 m4) (fun l' hl' => by cases hl'; rw [q5]; exact hln1)
   have e2 : Fr C2 (some l) = Fr C (some l) := by simp [Fr, q6, hρ]
   rw [e2] at hw2
   refine wpIn_mono hw2 ?_
   rintro e a w ⟨C3, st3, rfl, r1, r2, r3, r4, r5⟩
   have hρ3 : C3.ρ l = C.ρ l := by rw [r1.ρ l (by rw [q5]; exact hln1), q6, hρ]
   have fin : ∀ (jump : Option Code) (lp3 : ALoop) (bv : Bool), jump.isNone = bv → st3.s[l]? = some (.loop lp3) → R (.bool bv) (st3.s.set l (.loop { lp3 with state := if jump.isNone then .ready else .done, pending := jump })) st3.v →
     ∃ v w', (Instr.endRound (C.ρ l) jump).run P C3.w = .ok v w' ∧ ∃ C' x u s' v', C'.w = w' ∧ Ending.returned v = Ending.returned u ∧ C.le C' ∧ Ok C' s' ∧ C'.τ = v' ∧ RelV C' x u ∧ R x s' v' := by
    intro jump lp3 bv hb hs hR
    obtain ⟨L3, t1, t2, t3, t4, t5, t6, t7, t8, t9⟩ := loop_put r2 hs
    obtain ⟨C4, u1, u2, u3, u4, u5, u6⟩ := t9 (if jump.isNone then .ready else .done) jump
    refine ⟨_, _, run_endRound jump (by rw [← hρ3]; exact t1), C4, .bool bv, .bool bv, _, st3.v, ?_, by rw [hb], ((m1.trans q2).trans r1).trans u2, u3, u4.trans r3, relBool _, hR⟩
    rw [u1, hρ3]
   cases e with
   | normal => obtain ⟨lp3, hs, hR⟩ := r5; exact fin none lp3 true rfl hs hR
   | ret => obtain ⟨lp3, hs, hR⟩ := r5; exact fin (some .ret) lp3 false rfl hs hR
   | exit id => obtain ⟨lp3, hs, hR⟩ := r5; exact fin (some (.exit id)) lp3 false rfl hs hR
   | goto _ => exact r5.elim
   | panic _ => exact r5.elim
   | outgrown => exact r5.elim
 | exit _ => exact m5.elim
 | goto _ => exact m5.elim
 | ret => exact m5.elim
 | panic _ => exact m5.elim
 | outgrown => exact m5.elim

def rangeQ (P : Program) (r : Option Nat) (N : Nat) (l : Nat) (t : Nat → LV) (Q : Exit → St → Prop) (s : List AObj) (v : List Nat) : Prop :=
 ∃ lp, s[l]? = some (.loop lp) ∧ lp.state ≠ .busy ∧ match lp.pending with
  | none => Q .normal ⟨t, s.set l (.loop { lp with state := .exhausted }), v⟩
  | some c => aW P r N c Q ⟨t, s.set l (.loop { lp with state := .exhausted }), v⟩

theorem aW_range {P : Program} {r : Option Nat} {N : Nat} {f : Operand} {params : Array Tmp} {assign body : Code} {Q : Exit → St → Prop} {st : St} {g : FuncId} {fa ca : List LV} (hf : aev st.t f = .fn (.func g) fa ca) (hr : r = none)
  (h : aCalls P g (fa ++ [.yld st.s.length] ++ ca) (st.s ++ [.loop ⟨.ready, none, st.t, N, params, assign, body⟩]) st.v fun _ s v => rangeQ P r N st.s.length st.t Q s v) : aW P r N (.rangeFunc f params assign body) Q st := by
 subst hr
 intro B C a h1 h2 h3 h4
 obtain ⟨a1, a2, a0, bs, a3, a4, a5⟩ := h3
 refine wpIn_rangeFunc fun fn _ => ?_
 have hfv := aev_rel a2 f
 rw [hf] at hfv; simp only [RelV] at hfv
 obtain ⟨fs, cs, hv, hr1, hr2⟩ := hfv
 let D := C.w.heap.size
 let C1 := C.hold (.deferred (some []))
 have hle1 := h1.le_hold (.deferred (some []))
 have hok1 := h1.hold (.deferred (some []))
 let Lo : Obj := .loop { state := .ready, pending := none, fn, tmps := a.tmps, params, assign, body, defers := D }
 have hle2 := hok1.le_push Lo
 have hsz1 : C1.w.heap.size = D + 1 := by simp [C1, Ctx.hold, D]
 have hok2 : Ok (C1.push Lo) (st.s ++ [.loop ⟨.ready, none, st.t, N, params, assign, body⟩]) := hok1.push Lo _ ⟨_, heap_new _ _, rfl, rfl, rfl, rfl, rfl, a1, RelT.mono (hle1.trans hle2) a2⟩
 let C2 := C1.push Lo
 have hle : C.le C2 := hle1.trans hle2
 have hn0 : C.n = st.s.length := h1.n
 have hρ : C2.ρ st.s.length = D + 1 := by
  have : C1.n = st.s.length := hok1.n
  show (if st.s.length = C1.n then C1.w.heap.size else C1.ρ st.s.length) = D + 1
  rw [if_pos this.symm, hsz1]
 have hyld : RelV C2 (.yld st.s.length) (.func (.yield (D + 1)) #[] #[]) := by
  simp only [RelV]
  refine ⟨?_, by rw [hρ]⟩
  show st.s.length < C1.n + 1
  have : C1.n = st.s.length := hok1.n
  omega
 have hargs : RelVs C2 (fa ++ [.yld st.s.length] ++ ca) (fs ++ #[Value.func (.yield (D + 1)) #[] #[]] ++ cs).toList := by
  simp only [Array.toList_append]
  exact ((RelVs.mono hle _ _ hr1).app (RelVs.one hyld)).app (RelVs.mono hle _ _ hr2)
 refine ⟨D + 1, [mark D], C2.w, { target := .fn (.func g) cs, args := fs ++ #[Value.func (.yield (D + 1)) #[] #[]] }, C2.w, g, fs ++ #[Value.func (.yield (D + 1)) #[] #[]] ++ cs, C2.w, ?_, ?_, fun _ _ => trivial, ?_, fun hh => by simp [Fr, Fence.wide] at hh, callsIn_Fr ?_⟩
 ·exact run_enterLoop_outer (P := P) (w := C.w) fn a.tmps params assign body
 ·have e1 : a.eval (.const (.func (.yield (D + 1)) #[] #[])) = .func (.yield (D + 1)) #[] #[] := rfl
  simp only [resolve, hv, Deferred.ofValue, List.map_toArray, List.map_cons, List.map_nil, e1, Sem.run_pure]
 ·exact run_callFunc h.1 _ _
 ·refine (h.2 C2 _ hok2 h2 hargs).mono ?_
  rintro e w' ⟨C3, x, u, s', v', rfl, rfl, k3, k4, k5, k6, lp, m1, m2, m3⟩
  obtain ⟨L, p1, p2, p3, p4, p5, p6, p7, p8, p9⟩ := loop_put k4 m1
  have hlt2 : st.s.length < C2.n := by
   show st.s.length < C1.n + 1
   have : C1.n = st.s.length := hok1.n
   omega
  have hρ3 : C3.ρ st.s.length = D + 1 := by rw [k3.ρ _ hlt2, hρ]
  obtain ⟨C4, q1, q2, q3, q4, q5, q6⟩ := p9 .exhausted lp.pending
  have hle4 : C.le C4 := (hle.trans k3).trans q2
  have hD : C2.kept D := .inr rfl
  have hDobj : C2.w.heap[D]? = some (.deferred (some [])) := (heap_old C1.w Lo D (by rw [hsz1]; omega)).trans (heap_new C.w _)
  have hle24 := k3.trans q2
  have hS : RelS C4 N B st.t { a with defers := [mark D] ++ a.defers } := by
   refine ⟨a1, RelT.mono hle4 a2, Nat.le_trans a0 hle4.size, D :: bs, by simp [a3], ?_, ?_⟩
   ·refine List.nodup_cons.2 ⟨fun hh => ?_, a4⟩
    have := (a5 D hh).1.2
    have := h1.kept D this
    simp only [D] at this; omega
   ·intro b hb
    rcases List.mem_cons.1 hb with rfl | hb
    ·exact ⟨⟨a0, hle24.kept _ hD⟩, (hle24.keep _ hD).trans hDobj⟩
    ·have := a5 b hb
     exact ⟨⟨this.1.1, hle4.kept _ this.1.2⟩, (hle4.keep _ this.1.2).trans this.2⟩
  have hend := run_endLoop (P := P) p1 (by rw [p2]; exact m2)
  rw [hρ3] at hend q1
  refine ⟨_, C4.w, by rw [q1, ← p3]; exact hend, ?_⟩
  rw [p3]
  cases hp : lp.pending with
  | none =>
   rw [hp] at m3 q3
   exact ⟨C4, ⟨st.t, _, v'⟩, rfl, hle4, q3, q4.trans k5, hS, m3⟩
  | some c =>
   rw [hp] at m3 q3
   have := m3 B C4 _ q3 (q4.trans k5) hS (fun l hl => by cases hl)
   have e2 : Fr C4 none = Fr C none := rfl
   rw [e2] at this
   exact wpIn_mono this fun e a w hl => Lift.from hle4 hl
end Go.Hb
end

section
namespace Go.Hb
open Go Go.RowKit

mutual
def LV.under (n : Nat) : LV → Bool
 | .ptr id _ => decide (id < n)
 | .eptr cs => undersB n cs
 | .imm _ _ cs _ => undersB n cs
 | .ref _ id _ _ _ => decide (id < n)
 | .agg cs => undersB n cs
 | .tup cs => undersB n cs
 | .fn _ a b => undersB n a && undersB n b
 | .yld id => decide (id < n)
 | .mapr id => decide (id < n)
 | _ => true
def undersB (n : Nat) : List LV → Bool
 | [] => true
 | x :: xs => x.under n && undersB n xs
end

def AObj.under (n : Nat) : AObj → Prop
 | .cells cs => undersB n cs = true
 | .loop r => ∀ i, (r.tmps i).under n = true
 | .map f => ∀ k x, f k = some x → x.under n = true

mutual
theorem RelV.under {C : Ctx} : (x : LV) → (v : Value) → RelV C x v → x.under C.n = true
 | .any, _, _ => by simp [LV.under]
 | .bool _, _, _ => by simp [LV.under]
 | .int _ _, _, _ => by simp [LV.under]
 | .str _, _, _ => by simp [LV.under]
 | .nilp, _, _ => by simp [LV.under]
 | .ptr id off, v, e => by simp only [RelV] at e; simp [LV.under, e.1]
 | .eptr cs, v, e => by
  simp only [RelV] at e
  obtain ⟨b, o, _, e⟩ := e
  simp only [LV.under]; exact RelCs.under b cs o e
 | .nils, _, _ => by simp [LV.under]
 | .emp _, _, _ => by simp [LV.under]
 | .imm sz len cs r, v, e => by
  simp only [RelV] at e
  obtain ⟨A, cap, _, _, _, h3, h4, h5, h6, _⟩ := e
  simp only [LV.under]
  cases A with
  | none =>
   have : cs = [] := List.eq_nil_of_length_eq_zero (by rw [h3, (h4 rfl).1]; simp)
   subst this; simp [undersB]
  | some a =>
   by_cases hl : len = 0
   ·have : cs = [] := List.eq_nil_of_length_eq_zero (by rw [h3, hl]; simp)
    subst this; simp [undersB]
   obtain ⟨b, o, sp⟩ := a
   have := h5 _ rfl hl; simp at this; subst this
   exact RelCs.under b cs o (h6 b o rfl)
 | .ref sz id off len full, v, e => by simp only [RelV] at e; simp [LV.under, e.1]
 | .agg cs, v, e => by
  simp only [RelV] at e
  obtain ⟨vs, _, e, _⟩ := e
  simp only [LV.under]; exact RelVs.under cs _ e
 | .tup cs, v, e => by
  simp only [RelV] at e
  obtain ⟨vs, _, e⟩ := e
  simp only [LV.under]; exact RelVs.under cs _ e
 | .nilf, _, _ => by simp [LV.under]
 | .fn f a b, v, e => by
  simp only [RelV] at e
  obtain ⟨fs, cs, _, e1, e2⟩ := e
  simp only [LV.under, Bool.and_eq_true]; exact ⟨RelVs.under a _ e1, RelVs.under b _ e2⟩
 | .yld id, v, e => by simp only [RelV] at e; simp [LV.under, e.1]
 | .nilm, _, _ => by simp [LV.under]
 | .mapr id, v, e => by simp only [RelV] at e; simp [LV.under, e.1]
theorem RelVs.under {C : Ctx} : (xs : List LV) → (vs : List Value) → RelVs C xs vs → undersB C.n xs = true
 | [], _, _ => by simp [undersB]
 | x :: xs, vs, e => by
  simp only [RelVs] at e
  obtain ⟨v, r, _, e2, e3⟩ := e
  simp only [undersB, Bool.and_eq_true]; exact ⟨RelV.under x v e2, RelVs.under xs r e3⟩
theorem RelCs.under {C : Ctx} (b : Nat) : (xs : List LV) → (o : Nat) → RelCs C b xs o → undersB C.n xs = true
 | [], _, _ => by simp [undersB]
 | x :: xs, o, e => by
  simp only [RelCs] at e
  obtain ⟨⟨v, _, _, _, e4⟩, e5⟩ := e
  simp only [undersB, Bool.and_eq_true]; exact ⟨RelV.under x v e4, RelCs.under b xs (o + 1) e5⟩
end

def Ctx.cut (C : Ctx) (n : Nat) : Ctx := { C with n := n }

mutual
theorem RelV.cut {C : Ctx} {n : Nat} : (x : LV) → (v : Value) → x.under n = true → RelV C x v → RelV (C.cut n) x v
 | .any, _, _, _ => by simp [RelV]
 | .bool _, _, _, e => by simpa [RelV] using e
 | .int _ _, _, _, e => by simpa [RelV] using e
 | .str _, _, _, e => by simpa [RelV] using e
 | .nilp, _, _, e => by simpa [RelV] using e
 | .ptr id off, v, u, e => by simp only [RelV] at e ⊢; simp [LV.under] at u; exact ⟨u, e.2⟩
 | .eptr cs, v, u, e => by
  simp only [RelV] at e ⊢
  simp only [LV.under] at u
  obtain ⟨b, o, e1, e2⟩ := e
  exact ⟨b, o, e1, RelCs.cut b cs o u e2⟩
 | .nils, _, _, e => by simpa [RelV] using e
 | .emp _, _, _, e => by simpa [RelV] using e
 | .imm sz len cs r, v, u, e => by
  simp only [RelV] at e ⊢
  simp only [LV.under] at u
  obtain ⟨A, cap, e1, e2, e3, e4, e5, e6, e7, e8⟩ := e
  exact ⟨A, cap, e1, e2, e3, e4, e5, e6, fun b o hA => RelCs.cut b cs o u (e7 b o hA), e8⟩
 | .ref sz id off len full, v, u, e => by simp only [RelV] at e ⊢; simp [LV.under] at u; exact ⟨u, e.2⟩
 | .agg cs, v, u, e => by
  simp only [RelV] at e ⊢
  simp only [LV.under] at u
  obtain ⟨vs, e1, e2, e3⟩ := e
  exact ⟨vs, e1, RelVs.cut cs _ u e2, e3⟩
 | .tup cs, v, u, e => by
  simp only [RelV] at e ⊢
  simp only [LV.under] at u
  obtain ⟨vs, e1, e2⟩ := e
  exact ⟨vs, e1, RelVs.cut cs _ u e2⟩
 | .nilf, _, _, e => by simpa [RelV] using e
 | .fn f a b, v, u, e => by
  simp only [RelV] at e ⊢
  simp only [LV.under, Bool.and_eq_true] at u
  obtain ⟨fs, cs, e1, e2, e3⟩ := e
  exact ⟨fs, cs, e1, RelVs.cut a _ u.1 e2, RelVs.cut b _ u.2 e3⟩
 | .yld id, v, u, e => by simp only [RelV] at e ⊢; simp [LV.under] at u; exact ⟨u, e.2⟩
 | .nilm, _, _, e => by simpa [RelV] using e
 | .mapr id, v, u, e => by simp only [RelV] at e ⊢; simp [LV.under] at u; exact ⟨u, e.2⟩
theorem RelVs.cut {C : Ctx} {n : Nat} : (xs : List LV) → (vs : List Value) → undersB n xs = true → RelVs C xs vs → RelVs (C.cut n) xs vs
 | [], _, _, e => by simpa [RelVs] using e
 | x :: xs, vs, u, e => by
  simp only [RelVs] at e ⊢
  simp only [undersB, Bool.and_eq_true] at u
  obtain ⟨v, r, e1, e2, e3⟩ := e
  exact ⟨v, r, e1, RelV.cut x v u.1 e2, RelVs.cut xs r u.2 e3⟩
theorem RelCs.cut {C : Ctx} {n : Nat} (b : Nat) : (xs : List LV) → (o : Nat) → undersB n xs = true → RelCs C b xs o → RelCs (C.cut n) b xs o
 | [], _, _, _ => by simp [RelCs]
 | x :: xs, o, u, e => by
  simp only [RelCs] at e ⊢
  simp only [undersB, Bool.and_eq_true] at u
  obtain ⟨⟨v, e1, e2, e3, e4⟩, e5⟩ := e
  exact ⟨⟨v, e1, e2, e3, RelV.cut x v u.1 e4⟩, RelCs.cut b xs (o + 1) u.2 e5⟩
end

theorem RelO.cut {C : Ctx} {n : Nat} {o : AObj} {b : Nat} (u : o.under n) (r : RelO C o b) : RelO (C.cut n) o b := by
 cases o with
 | cells cs =>
  obtain ⟨vs, T, us, ws, h1, h2, h3, h4⟩ := r
  exact ⟨vs, T, us, ws, h1, h2, RelVs.cut _ _ u h3, h4⟩
 | loop r' =>
  obtain ⟨L, h1, h2, h3, h4, h5, h6, h7, h8⟩ := r
  exact ⟨L, h1, h2, h3, h4, h5, h6, h7, fun i => RelV.cut _ _ (u i) (h8 i)⟩
 | map f =>
  obtain ⟨es, cl, h1, h2, h3⟩ := r
  refine ⟨es, cl, h1, h2, fun k => ?_⟩
  have h4 := h3 k
  cases hf : f k with
  | none => rw [hf] at h4; cases hl : look es.toList k <;> simp_all [RelOpt]
  | some x =>
   rw [hf] at h4
   cases hl : look es.toList k with
   | none => rw [hl] at h4; exact h4.elim
   | some v => rw [hl] at h4; exact RelV.cut x v (u k x hf) h4

theorem RelO.under {C : Ctx} {o : AObj} {b : Nat} (r : RelO C o b) : o.under C.n := by
 cases o with
 | cells cs =>
  obtain ⟨vs, T, us, ws, h1, h2, h3, h4⟩ := r
  exact RelVs.under _ _ h3
 | loop r' =>
  obtain ⟨L, h1, h2, h3, h4, h5, h6, h7, h8⟩ := r
  exact fun i => RelV.under _ _ (h8 i)
 | map f =>
  obtain ⟨es, cl, h1, h2, h3⟩ := r
  intro k x hf
  have h4 := h3 k
  rw [hf] at h4
  cases hl : look es.toList k with
  | none => rw [hl] at h4; exact h4.elim
  | some v => rw [hl] at h4; exact RelV.under x v h4

theorem aCalls_drop {P : Program} {f : FuncId} {args : List LV} {s : List AObj} {v : List Nat} {R : LV → List AObj → List Nat → Prop}
  (h : aCalls P f args s v fun x s' v' => ∃ s1 J, s' = s1 ++ J ∧ s1.length = s.length ∧ x.under s.length = true ∧ (∀ (i : Nat) (o : AObj), s1[i]? = some o → s[i]? = some o ∨ o.under s.length) ∧ R x s1 v') : aCalls P f args s v R := by
 refine ⟨h.1, fun C vs h1 h2 h3 => (h.2 C vs h1 h2 h3).mono ?_⟩
 rintro e w' ⟨C', x, u, s', v', rfl, rfl, k3, k4, k5, k6, s1, J, rfl, k7, k8, k9, k10⟩
 have hn : C.n = s.length := h1.n
 have hn' : C'.n = (s1 ++ J).length := k4.n
 have hlt : s.length ≤ C'.n := by rw [hn', List.length_append]; omega
 refine ⟨C'.cut s.length, x, u, s1, v', rfl, rfl, ⟨k3.os, k3.tape, k3.output, k3.size, k3.kept, k3.keep, k3.lim, k3.cell, k3.ρ, by simp [Ctx.cut, hn], k3.τ, k3.room, k3.drawn⟩, ?_, k5, RelV.cut x u k8 k6, k10⟩
 refine ⟨by simp [Ctx.cut, k7], fun i o ho => ?_, fun i j hi hj e => (by
  have := k4.inj i j (Nat.lt_of_lt_of_le hi hlt) (Nat.lt_of_lt_of_le hj hlt) e
  rwa [List.getElem?_append_left (by rw [k7]; exact hi), List.getElem?_append_left (by rw [k7]; exact hj)] at this), fun i hi => by
  obtain ⟨a, b, c⟩ := k4.own i (Nat.lt_of_lt_of_le hi hlt)
  refine ⟨a, b.imp (fun hb => ?_) id, c⟩
  rw [List.getElem?_append_left (by rw [k7]; exact hi)] at hb; exact hb, k4.tip, k4.tipinj, fun g i hg hi => k4.tipown g i hg (Nat.lt_of_lt_of_le hi hlt), k4.kept, k4.lim⟩
 have hi : i < s1.length := (List.getElem?_eq_some_iff.1 ho).1
 have hr := k4.obj i o (by rw [List.getElem?_append_left hi]; exact ho)
 rcases k9 i o ho with h' | h'
 ·have := RelO.under (h1.obj i o h')
  rw [hn] at this
  exact RelO.cut this hr
 ·exact RelO.cut h' hr

theorem get_app (s l : List AObj) (k : Nat) : (s ++ l)[s.length + k]? = l[k]? := by
 rw [List.getElem?_append_right (by omega)]; congr 1; omega
theorem get_app0 (s l : List AObj) : (s ++ l)[s.length]? = l[0]? := get_app s l 0
theorem set_app (s l : List AObj) (k : Nat) (o : AObj) : (s ++ l).set (s.length + k) o = s ++ l.set k o := by
 rw [List.set_append_right _ _ (by omega)]; congr 2; omega
theorem set_app0 (s l : List AObj) (o : AObj) : (s ++ l).set s.length o = s ++ l.set 0 o := set_app s l 0 o
end Go.Hb
end

section
namespace Go.Hb
open Go Go.RowKit

attribute [simp] Plan.qs
attribute [simp] aC aL aOper aGuard callee aop aev upd_apply initT dOk aThen aInBlock updO aUn aIf bodyQ aRes aResult packed ofVal ofVal1 aLoad aStore aNew aAlloc aPart aField aFieldAddr aIndexAddr aIndex aLen aMinMax aExtract aNil aBuiltin LV.cells LV.cellsOk setAt aPlan aq aWatch aConv notInt aHead aCells grow aAppend quietOp loadOp get_app get_app0 set_app set_app0

attribute [simp] aAppendOwn aAppendNil aSl aAppendRef aAppendNew aClear aopO isWide aBuildObj aopO_false
attribute [simp] aMakeMap aLookup aMapUpdate aDelete
attribute [simp] aBin aBuild aFill aBuildSlice aMakeSlice aSlice aBounds oInt sliceR

def Weak (x y : LV) : Prop := ∀ C v, RelV C x v → RelV C y v
theorem Weak.refl (x : LV) : Weak x x := fun _ _ h => h
theorem Weak.trans {x y z : LV} (h : Weak x y) (k : Weak y z) : Weak x z := fun C v r => k C v (h C v r)
theorem Weak.imm (sz n : Nat) (cs : List LV) (r : Right) : Weak (.imm sz n cs r) (.imm sz n cs .no) := fun C v h => by
 simp only [RelV] at h ⊢
 obtain ⟨A, cap, e1, e2, e3, e4, e5, e6, e7, e8⟩ := h
 exact ⟨A, cap, e1, e2, e3, e4, e5, e6, e7, trivial⟩
theorem Weak.nils (sz : Nat) (r : Right) (hr : r = .no ∨ r = .full) : Weak .nils (.imm sz 0 [] r) := fun C v h => by
 simp only [RelV] at h ⊢; subst h
 refine ⟨none, 0, rfl, Nat.le_refl _, Nat.zero_le _, by simp, fun _ => by simp, (fun _ h => by cases h), (fun _ _ h => by cases h), ?_⟩
 rcases hr with rfl | rfl
 ·trivial
 ·simp [RelR]
theorem Weak.any (x : LV) : Weak x .any := fun C v _ => by simp [RelV]

def Weaks : List LV → List LV → Prop
 | [], [] => True
 | x :: xs, y :: ys => Weak x y ∧ Weaks xs ys
 | _, _ => False

theorem Weaks.refl : ∀ xs, Weaks xs xs
 | [] => trivial
 | x :: xs => ⟨Weak.refl x, Weaks.refl xs⟩

theorem Weaks.rel {C : Ctx} : ∀ {xs ys : List LV} {vs : List Value}, Weaks xs ys → RelVs C xs vs → RelVs C ys vs := by
 intro xs
 induction xs with
 | nil => intro ys vs h r; cases ys with | nil => exact r | cons => exact h.elim
 | cons x xs ih =>
  intro ys vs h r
  cases ys with
  | nil => exact h.elim
  | cons y ys =>
   obtain ⟨v, r', e1, e2, e3⟩ := r
   exact ⟨v, r', e1, h.1 _ _ e2, ih h.2 e3⟩

theorem Weaks.set : ∀ {xs ys : List LV} {i : Nat} {x y : LV}, Weaks xs ys → Weak x y → Weaks (xs.set i x) (ys.set i y) := by
 intro xs
 induction xs with
 | nil => intro ys i x y h _; cases ys with | nil => simp [Weaks] | cons => exact h.elim
 | cons a xs ih =>
  intro ys i x y h k
  cases ys with
  | nil => exact h.elim
  | cons b ys =>
   cases i with
   | zero => exact ⟨k, h.2⟩
   | succ i => exact ⟨h.1, ih h.2 k⟩

theorem Weak.agg {xs ys : List LV} (h : Weaks xs ys) : Weak (.agg xs) (.agg ys) := fun C v r => by
 simp only [RelV] at r ⊢
 obtain ⟨vs, e1, e2, e3⟩ := r
 exact ⟨vs, e1, h.rel e2, e3⟩
theorem Weak.tup {xs ys : List LV} (h : Weaks xs ys) : Weak (.tup xs) (.tup ys) := fun C v r => by
 simp only [RelV] at r ⊢
 obtain ⟨vs, e1, e2⟩ := r
 exact ⟨vs, e1, h.rel e2⟩

def WeakO : AObj → AObj → Prop
 | .cells xs, .cells ys => Weaks xs ys
 | x, y => x = y
theorem WeakO.refl (o : AObj) : WeakO o o := by cases o <;> simp [WeakO, Weaks.refl]

theorem WeakO.rel {C : Ctx} {o o' : AObj} {b : Nat} (h : WeakO o o') (r : RelO C o b) : RelO C o' b := by
 cases o with
 | cells xs =>
  cases o' with
  | cells ys =>
   obtain ⟨vs, T, us, ws, h1, h2, h3, h4⟩ := r
   exact ⟨vs, T, us, ws, h1, h2, Weaks.rel h h3, h4⟩
  | loop r' => simp [WeakO] at h
  | map f' => simp [WeakO] at h
 | loop r' =>
  cases o' with
  | cells ys => simp [WeakO] at h
  | loop r2 => simp only [WeakO] at h; cases h; exact r
  | map f' => simp [WeakO] at h
 | map f =>
  cases o' with
  | cells ys => simp [WeakO] at h
  | loop r2 => simp [WeakO] at h
  | map f' => simp only [WeakO] at h; cases h; exact r

def WeakS (s s' : List AObj) : Prop := s.length = s'.length ∧ ∀ (i : Nat) (o o' : AObj), s[i]? = some o → s'[i]? = some o' → WeakO o o'
theorem WeakS.refl (s : List AObj) : WeakS s s := ⟨rfl, fun i o o' h h' => by rw [h] at h'; cases h'; exact WeakO.refl o⟩
theorem WeakS.trans {a b c : List AObj} (h : WeakS a b) (k : WeakS b c) (hw : ∀ x y z : AObj, WeakO x y → WeakO y z → WeakO x z) : WeakS a c := ⟨h.1.trans k.1, fun i o o' h1 h2 => by
 have hi : i < b.length := by rw [← h.1]; exact (List.getElem?_eq_some_iff.1 h1).1
 exact hw _ _ _ (h.2 i o b[i] h1 (by simp [hi])) (k.2 i b[i] o' (by simp [hi]) h2)⟩

theorem WeakS.set {s : List AObj} {id : Nat} {o o' : AObj} (h : WeakO o o') : WeakS (s.set id o) (s.set id o') := ⟨by simp, fun i x x' h1 h2 => by
 by_cases e : id = i
 ·subst e
  have hl : id < s.length := by
   have := (List.getElem?_eq_some_iff.1 h1).1
   simpa using this
  simp [hl] at h1 h2
  subst h1; subst h2; exact h
 ·rw [List.getElem?_set_ne e] at h1 h2
  rw [h1] at h2; cases h2; exact WeakO.refl x⟩

theorem WeakS.dead {s s' : List AObj} (hw : WeakS s s') {i : Nat} (hb : s[i]? = some (.cells [])) : s'[i]? = some (.cells []) := by
 have hi' : i < s'.length := by rw [← hw.1]; exact (List.getElem?_eq_some_iff.1 hb).1
 have := hw.2 i _ s'[i] hb (by simp [hi'])
 have hx : s'[i] = .cells [] := by
  cases hq : s'[i] with
  | cells xs => rw [hq] at this; cases xs with | nil => rfl | cons => exact this.elim
  | loop r => rw [hq] at this; simp [WeakO] at this
  | map f => rw [hq] at this; simp [WeakO] at this
 rw [List.getElem?_eq_getElem hi', hx]

theorem Ok.weak {C : Ctx} {s s' : List AObj} (h : Ok C s) (hw : WeakS s s') : Ok C s' :=
 ⟨by rw [h.n, hw.1], fun i o ho => by
  have hi : i < s.length := by rw [hw.1]; exact (List.getElem?_eq_some_iff.1 ho).1
  exact WeakO.rel (hw.2 i s[i] o (by simp [hi]) ho) (h.obj i s[i] (by simp [hi])), fun i j hi hj e => (h.inj i j hi hj e).imp id (Or.imp hw.dead hw.dead), fun i hi => by
  obtain ⟨a, b, c⟩ := h.own i hi
  refine ⟨a, b.imp (fun hb => ?_) id, c⟩
  have hi' : i < s'.length := by rw [← hw.1, ← h.n]; exact hi
  have := hw.2 i _ s'[i] hb (by simp [hi'])
  have hx : s'[i] = .cells [] := by
   cases hq : s'[i] with
   | cells xs => rw [hq] at this; cases xs with | nil => rfl | cons => exact this.elim
   | loop r => rw [hq] at this; simp [WeakO] at this
   | map f => rw [hq] at this; simp [WeakO] at this
  rw [List.getElem?_eq_getElem hi', hx], h.tip, h.tipinj, h.tipown, h.kept, h.lim⟩

theorem aCalls_weak {P : Program} {f : FuncId} {args : List LV} {s : List AObj} {v : List Nat} {R : LV → List AObj → List Nat → Prop}
  (h : aCalls P f args s v fun x s' v' => ∃ y s'', Weak x y ∧ WeakS s' s'' ∧ R y s'' v') : aCalls P f args s v R :=
 ⟨h.1, fun C vs h1 h2 h3 => (h.2 C vs h1 h2 h3).mono fun e w' ⟨C', x, u, s', v', k1, k2, k3, k4, k5, k6, y, s'', k7, k8, k9⟩ => ⟨C', y, u, s'', v', k1, k2, k3, k4.weak k8, k5, k7 _ _ k6, k9⟩⟩

theorem aW_weak {P : Program} {r : Option Nat} {N : Nat} {c : Code} {Q : Exit → St → Prop} {st st' : St} (ht : ∀ i, Weak (st.t i) (st'.t i)) (hs : WeakS st.s st'.s) (hv : st.v = st'.v) (h : aW P r N c Q st') : aW P r N c Q st :=
 fun B C a h1 h2 h3 h4 => h B C a (h1.weak hs) (h2.trans hv) ⟨h3.1, fun i => ht i _ _ (h3.2.1 i), h3.2.2⟩ h4

def Ctx.freeze (C : Ctx) (id L : Nat) : Ctx := { C with lim := fun b => if b = C.ρ id then L else C.lim b }

theorem Ok.le_freeze {C : Ctx} {s : List AObj} (h : Ok C s) {id : Nat} (L : Nat) (hl : C.lim (C.ρ id) = 0) : C.le (C.freeze id L) where
 os := rfl
 tape := rfl
 output := rfl
 size := Nat.le_refl _
 kept _ h := h
 keep _ _ := rfl
 lim b := by
  simp only [Ctx.freeze]
  by_cases e : b = C.ρ id
  ·rw [if_pos e, e, hl]; omega
  ·rw [if_neg e]; exact Nat.le_refl _
 cell _ _ _ := rfl
 ρ _ _ := rfl
 n := Nat.le_refl _
 τ g e he := ⟨e, he, Nat.le_refl _, fun _ => rfl⟩
 room _ := Nat.le_refl _

theorem Ok.freeze {C : Ctx} {s : List AObj} (h : Ok C s) {id L : Nat} (hid : id < s.length) (hl : C.lim (C.ρ id) = 0) {cs : List LV} (hs : s[id]? = some (.cells cs)) (hcs : cs ≠ []) : Ok (C.freeze id L) (s.set id (.cells [])) where
 n := by simpa [Ctx.freeze] using h.n
 obj i o ho := by
  have hle := h.le_freeze L hl
  by_cases e : i = id
  ·subst e
   simp [hid] at ho; subst ho
   obtain ⟨vs, T, us, ws, h1, h2, h3, h4⟩ := h.obj i _ hs
   exact ⟨vs, T, [], vs.toList, h1, by simp, rfl, by simp⟩
  ·rw [List.getElem?_set_ne (by omega)] at ho
   exact RelO.mono hle rfl (h.obj i o ho)
 inj i j hi hj e := by
  have key : ∀ k, s[k]? = some (AObj.cells []) → (s.set id (AObj.cells []))[k]? = some (AObj.cells []) := fun k hk => by
   by_cases e9 : id = k
   ·rw [← e9, List.getElem?_set_self hid]
   ·rw [List.getElem?_set_ne e9]; exact hk
  exact (h.inj i j hi hj e).imp (fun x => x) (Or.imp (key i) (key j))
 own i hi := by
  obtain ⟨a, b, c⟩ := h.own i hi
  refine ⟨a, ?_, c⟩
  by_cases e : i = id
  ·subst e; left; simp [hid]
  ·have hin : id < C.n := by rw [h.n]; exact hid
   rcases b with b | b
   ·left; rw [List.getElem?_set_ne (by omega)]; exact b
   ·by_cases hne : C.ρ i = C.ρ id
    ·rcases h.inj i id hi hin hne with h' | h' | h'
     ·exact absurd h' e
     ·left; rw [List.getElem?_set_ne (by omega)]; exact h'
     ·rw [hs] at h'; exact absurd (by simpa using h') hcs
    ·right; simp only [Ctx.freeze]; rw [if_neg hne]; exact b
 tip g hg := by
  obtain ⟨a, b, c⟩ := h.tip g hg
  have hne : (C.θ g).b ≠ C.ρ id := fun e => h.tipown g id hg (by rw [h.n]; exact hid) e.symm
  exact ⟨a, by simp only [Ctx.freeze]; rw [if_neg hne]; exact b, c⟩
 tipinj := h.tipinj
 tipown := h.tipown
 kept := h.kept
 lim b hb := by
  have := (h.own id (by rw [h.n]; exact hid)).2.2
  have hb' : C.w.heap.size ≤ b := hb
  simp only [Ctx.freeze]
  rw [if_neg (by intro e; rw [e] at hb'; omega)]
  exact h.lim b hb

mutual
def LV.frz (id : Nat) (L : List LV) : LV → LV
 | .ref sz i off len fl => if i = id ∧ off + len * sz ≤ L.length then .imm sz len ((L.drop off).take (len * sz)) .no else .ref sz i off len fl
 | .agg cs => .agg (frzs id L cs)
 | .tup cs => .tup (frzs id L cs)
 | x => x
def frzs (id : Nat) (L : List LV) : List LV → List LV
 | [] => []
 | x :: xs => x.frz id L :: frzs id L xs
end

section
variable {C : Ctx} {s : List AObj} {id : Nat} {L : List LV}
mutual
theorem RelV.frz (k4 : Ok C s) (k7 : s[id]? = some (.cells L)) (hle : C.le (C.freeze id L.length)) : (x : LV) → (v : Value) → RelV C x v → RelV (C.freeze id L.length) (x.frz id L) v
 | .ref sz i off len fl, v, e => by
  simp only [LV.frz]
  split
  ·rename_i hc
   obtain ⟨rfl, k8⟩ := hc
   simp only [RelV] at e
   obtain ⟨q0, cap, rfl, q1, q2, q3⟩ := e
   obtain ⟨vs', T, us, ws, p1, p2, p3, p4⟩ := k4.obj i _ k7
   have pl := p3.length
   simp only [RelV]
   refine ⟨some ⟨C.ρ i, off, none⟩, cap, rfl, q1, q2, by simp; omega, (by intro h; cases h), fun a ha _ => by cases ha; rfl, fun b o hb => ?_, trivial⟩
   cases hb
   refine RelCs.of_row (C := C.freeze i L.length) p1 _ ((us.drop off).take (len * sz)) off (((RelVs.mono hle _ _ p3).drop _).take _) (fun u hu => p4 u (List.mem_of_mem_drop (List.mem_of_mem_take hu))) (fun j u hj => ?_) ?_
   ·have hj' := (List.getElem?_eq_some_iff.1 hj).1
    have hlt : j < len * sz := by simp at hj'; omega
    rw [List.getElem?_take_of_lt hlt, List.getElem?_drop] at hj
    have : vs'.toList[off + j]? = some u := by
     rw [p2, List.getElem?_append_left (List.getElem?_eq_some_iff.1 hj).1]; exact hj
    simpa using this
   ·simp only [Ctx.freeze, if_true, List.length_take, List.length_drop]; omega
  ·exact RelV.mono hle _ _ e
 | .agg cs, v, e => by
  simp only [RelV, LV.frz] at e ⊢
  obtain ⟨vs, e1, e2, e3⟩ := e
  exact ⟨vs, e1, RelVs.frz k4 k7 hle cs _ e2, e3⟩
 | .tup cs, v, e => by
  simp only [RelV, LV.frz] at e ⊢
  obtain ⟨vs, e1, e2⟩ := e
  exact ⟨vs, e1, RelVs.frz k4 k7 hle cs _ e2⟩
 | .any, v, e => RelV.mono hle _ _ e
 | .bool _, v, e => RelV.mono hle _ _ e
 | .int _ _, v, e => RelV.mono hle _ _ e
 | .str _, v, e => RelV.mono hle _ _ e
 | .nilp, v, e => RelV.mono hle _ _ e
 | .ptr _ _, v, e => RelV.mono hle _ _ e
 | .eptr _, v, e => RelV.mono hle _ _ e
 | .nils, v, e => RelV.mono hle _ _ e
 | .emp _, v, e => RelV.mono hle _ _ e
 | .imm _ _ _ _, v, e => RelV.mono hle _ _ e
 | .nilf, v, e => RelV.mono hle _ _ e
 | .fn _ _ _, v, e => RelV.mono hle _ _ e
 | .yld _, v, e => RelV.mono hle _ _ e
 | .nilm, v, e => RelV.mono hle _ _ e
 | .mapr _, v, e => RelV.mono hle _ _ e
theorem RelVs.frz (k4 : Ok C s) (k7 : s[id]? = some (.cells L)) (hle : C.le (C.freeze id L.length)) : (xs : List LV) → (vs : List Value) → RelVs C xs vs → RelVs (C.freeze id L.length) (frzs id L xs) vs
 | [], _, e => by simpa [RelVs, frzs] using e
 | x :: xs, vs, e => by
  simp only [RelVs, frzs] at e ⊢
  obtain ⟨v, r, e1, e2, e3⟩ := e
  exact ⟨v, r, e1, RelV.frz k4 k7 hle x v e2, RelVs.frz k4 k7 hle xs r e3⟩
end
end

attribute [simp] LV.frz frzs

theorem noext {v v' : List Nat} {g e : Nat} (h : v <+: v') (hg : v[g]? = some e) : v'[g]? = some e := by
 obtain ⟨t, rfl⟩ := h
 rw [List.getElem?_append_left (List.getElem?_eq_some_iff.1 hg).1]; exact hg
end Go.Hb
end

section
namespace Go.Hb
open Go Go.RowKit

@[simp] def aScope (Q : Exit → St → Prop) : Exit → St → Prop
 | .goto _, _ => False
 | e, st => Q e st

theorem aRound_mono {P : Program} {l : Nat} {args : List LV} {s : List AObj} {v : List Nat} {R R' : LV → List AObj → List Nat → Prop} (h : aRound P l args s v R) (hr : ∀ x s v, R x s v → R' x s v) : aRound P l args s v R' := fun C vs h1 h2 h3 => by
 obtain ⟨k1, fn, tmps, assign, body, k2, k3⟩ := h C vs h1 h2 h3
 exact ⟨k1, fn, tmps, assign, body, k2, fun F hF => (k3 F hF).mono fun e w' ⟨C', x, u, s', v', m1, m2, m3, m4, m5, m6, m7⟩ => ⟨C', x, u, s', v', m1, m2, m3, m4, m5, m6, hr _ _ _ m7⟩⟩
end Go.Hb
end

section
namespace Go.Hb
open Go Go.RowKit
structure Tok (K : St → Prop) : Type where mk ::
structure TokQ (c : Code) (Q : Exit → St → Prop) : Type where mk ::
def go (K : St → Prop) (_ : Tok K) (st : St) : Prop := K st
def aWh (P : Program) (r : Option Nat) (N : Nat) (c : Code) (Q : Exit → St → Prop) (_ : TokQ c Q) (st : St) : Prop := aW P r N c Q st
section
variable {P : Program} {r : Option Nat} {N : Nat} {own : Bool} {Q : Exit → St → Prop} {K K0 K1 : St → Prop} {st : St} {ops : Array Oper}

def aSeq (P : Program) (r : Option Nat) (N : Nat) (own : Bool) (y : Code) (Q : Exit → St → Prop) : Exit → St → Prop := aThen (aC P r N own y Q) Q
def aBr (c : LV) (K0 K1 : St → Prop) (_ : Tok K0) (_ : Tok K1) (st : St) : Prop := match c with | .bool b => if b = true then K0 st else K1 st | _ => False
def aSome (o : Option (LV × List AObj × List Nat)) (K : LV → List AObj → List Nat → Prop) : Prop := match o with | some (x, s, v) => K x s v | none => False
def aPut (d : Option Tmp) (t : Nat → LV) (K : St → Prop) (_ : Tok K) : LV → List AObj → List Nat → Prop := fun x s v => K ⟨updO d x t, s, v⟩
def aCallee (c : Callee') (P : Program) (own : Bool) (o : Oper) (K : St → Prop) (tk : Tok K) (st : St) : Prop := match c with
 | .func f args => aCalls P f args st.s st.v (aPut o.dst st.t K tk)
 | .yld l args => aRound P l args st.s st.v (aPut o.dst st.t K tk)
 | .bad => False
 | .no => aSome (aopO P own o.op st) (aPut o.dst st.t K tk)
def aDo (P : Program) (own : Bool) (o : Oper) (K : St → Prop) (tk : Tok K) (st : St) : Prop := aCallee (callee o.op st.t) P own o K tk st
def aSkip (d : Option Tmp) (K : St → Prop) (_ : Tok K) (st : St) : Prop := K ⟨updO d (.tup []) st.t, st.s, st.v⟩
def aG (g : Option Bool) (K0 K1 : St → Prop) (_ : Tok K0) (_ : Tok K1) (st : St) : Prop := match g with | some false => K0 st | some true => K1 st | none => False

@[simp] theorem lC_go (c : Code) : aC P r N own c Q st = go (aC P r N own c Q) ⟨⟩ st := rfl
@[simp] theorem lC_skip (tk) : go (aC P r N own .skip Q) tk st = go (Q .normal) ⟨⟩ st := rfl
@[simp] theorem lC_ret (tk) : go (aC P r N own .ret Q) tk st = go (Q .ret) ⟨⟩ st := rfl
@[simp] theorem lC_label (l : Nat) (tk) : go (aC P r N own (.label l) Q) tk st = go (Q .normal) ⟨⟩ st := rfl
@[simp] theorem lC_exit (id : Nat) (tk) : go (aC P r N own (.exit id) Q) tk st = go (Q (.exit id)) ⟨⟩ st := rfl
@[simp] theorem lC_seq_skip (y : Code) (tk) : go (aC P r N own (.seq (.skip) y) Q) tk st = go (aC P r N own (.skip) (aSeq P r N own y Q)) ⟨⟩ st := rfl
@[simp] theorem lC_seqb_skip (id : Nat) (y : Code) (tk) : go (aC P r N own (.seq (.block id (.skip)) y) Q) tk st = go (aC P r N own (.block id (.skip)) (aSeq P r N own y Q)) ⟨⟩ st := rfl
@[simp] theorem lC_seq_label (l : Nat) (y : Code) (tk) : go (aC P r N own (.seq (.label l) y) Q) tk st = go (aC P r N own (.label l) (aSeq P r N own y Q)) ⟨⟩ st := rfl
@[simp] theorem lC_seqb_label (l : Nat) (id : Nat) (y : Code) (tk) : go (aC P r N own (.seq (.block id (.label l)) y) Q) tk st = go (aC P r N own (.block id (.label l)) (aSeq P r N own y Q)) ⟨⟩ st := rfl
@[simp] theorem lC_seq_goto (l : Nat) (y : Code) (tk) : go (aC P r N own (.seq (.goto l) y) Q) tk st = go (aC P r N own (.goto l) (aSeq P r N own y Q)) ⟨⟩ st := rfl
@[simp] theorem lC_seqb_goto (l : Nat) (id : Nat) (y : Code) (tk) : go (aC P r N own (.seq (.block id (.goto l)) y) Q) tk st = go (aC P r N own (.block id (.goto l)) (aSeq P r N own y Q)) ⟨⟩ st := rfl
@[simp] theorem lC_seq_exit (i : Nat) (y : Code) (tk) : go (aC P r N own (.seq (.exit i) y) Q) tk st = go (aC P r N own (.exit i) (aSeq P r N own y Q)) ⟨⟩ st := rfl
@[simp] theorem lC_seqb_exit (i : Nat) (id : Nat) (y : Code) (tk) : go (aC P r N own (.seq (.block id (.exit i)) y) Q) tk st = go (aC P r N own (.block id (.exit i)) (aSeq P r N own y Q)) ⟨⟩ st := rfl
@[simp] theorem lC_seq_ret (y : Code) (tk) : go (aC P r N own (.seq (.ret) y) Q) tk st = go (aC P r N own (.ret) (aSeq P r N own y Q)) ⟨⟩ st := rfl
@[simp] theorem lC_seqb_ret (id : Nat) (y : Code) (tk) : go (aC P r N own (.seq (.block id (.ret)) y) Q) tk st = go (aC P r N own (.block id (.ret)) (aSeq P r N own y Q)) ⟨⟩ st := rfl
@[simp] theorem lC_seqs_skip (x y : Code) (tk) : go (aC P r N own (.seq (.seq x (.skip)) y) Q) tk st = go (aC P r N own (.seq x (.skip)) (aSeq P r N own y Q)) ⟨⟩ st := rfl
@[simp] theorem lC_seqsb_skip (id : Nat) (x y : Code) (tk) : go (aC P r N own (.seq (.seq x (.block id (.skip))) y) Q) tk st = go (aC P r N own (.seq x (.block id (.skip))) (aSeq P r N own y Q)) ⟨⟩ st := rfl
@[simp] theorem lC_seqs_label (l : Nat) (x y : Code) (tk) : go (aC P r N own (.seq (.seq x (.label l)) y) Q) tk st = go (aC P r N own (.seq x (.label l)) (aSeq P r N own y Q)) ⟨⟩ st := rfl
@[simp] theorem lC_seqsb_label (l : Nat) (id : Nat) (x y : Code) (tk) : go (aC P r N own (.seq (.seq x (.block id (.label l))) y) Q) tk st = go (aC P r N own (.seq x (.block id (.label l))) (aSeq P r N own y Q)) ⟨⟩ st := rfl
@[simp] theorem lC_seqs_goto (l : Nat) (x y : Code) (tk) : go (aC P r N own (.seq (.seq x (.goto l)) y) Q) tk st = go (aC P r N own (.seq x (.goto l)) (aSeq P r N own y Q)) ⟨⟩ st := rfl
@[simp] theorem lC_seqsb_goto (l : Nat) (id : Nat) (x y : Code) (tk) : go (aC P r N own (.seq (.seq x (.block id (.goto l))) y) Q) tk st = go (aC P r N own (.seq x (.block id (.goto l))) (aSeq P r N own y Q)) ⟨⟩ st := rfl
@[simp] theorem lC_seqs_exit (i : Nat) (x y : Code) (tk) : go (aC P r N own (.seq (.seq x (.exit i)) y) Q) tk st = go (aC P r N own (.seq x (.exit i)) (aSeq P r N own y Q)) ⟨⟩ st := rfl
@[simp] theorem lC_seqsb_exit (i : Nat) (id : Nat) (x y : Code) (tk) : go (aC P r N own (.seq (.seq x (.block id (.exit i))) y) Q) tk st = go (aC P r N own (.seq x (.block id (.exit i))) (aSeq P r N own y Q)) ⟨⟩ st := rfl
@[simp] theorem lC_seqs_ret (x y : Code) (tk) : go (aC P r N own (.seq (.seq x (.ret)) y) Q) tk st = go (aC P r N own (.seq x (.ret)) (aSeq P r N own y Q)) ⟨⟩ st := rfl
@[simp] theorem lC_seqsb_ret (id : Nat) (x y : Code) (tk) : go (aC P r N own (.seq (.seq x (.block id (.ret))) y) Q) tk st = go (aC P r N own (.seq x (.block id (.ret))) (aSeq P r N own y Q)) ⟨⟩ st := rfl
@[simp] theorem lC_seqs_seq (a b : Code) (x y : Code) (tk) : go (aC P r N own (.seq (.seq x (.seq a b)) y) Q) tk st = go (aC P r N own (.seq x (.seq a b)) (aSeq P r N own y Q)) ⟨⟩ st := rfl
@[simp] theorem lC_seqsb_seq (a b : Code) (id : Nat) (x y : Code) (tk) : go (aC P r N own (.seq (.seq x (.block id (.seq a b))) y) Q) tk st = go (aC P r N own (.seq x (.block id (.seq a b))) (aSeq P r N own y Q)) ⟨⟩ st := rfl
@[simp] theorem lC_seqs_cond (o : Operand) (a b : Code) (x y : Code) (tk) : go (aC P r N own (.seq (.seq x (.cond o a b)) y) Q) tk st = go (aC P r N own (.seq x (.cond o a b)) (aSeq P r N own y Q)) ⟨⟩ st := rfl
@[simp] theorem lC_seqsb_cond (o : Operand) (a b : Code) (id : Nat) (x y : Code) (tk) : go (aC P r N own (.seq (.seq x (.block id (.cond o a b))) y) Q) tk st = go (aC P r N own (.seq x (.block id (.cond o a b))) (aSeq P r N own y Q)) ⟨⟩ st := rfl
@[simp] theorem lC_seqs_region (i : Nat) (o : Array Oper) (d : Bool) (x y : Code) (tk) : go (aC P r N own (.seq (.seq x (.region i o d)) y) Q) tk st = go (aC P r N own (.seq x (.region i o d)) (aSeq P r N own y Q)) ⟨⟩ st := rfl
@[simp] theorem lC_seqsb_region (i : Nat) (o : Array Oper) (d : Bool) (id : Nat) (x y : Code) (tk) : go (aC P r N own (.seq (.seq x (.block id (.region i o d))) y) Q) tk st = go (aC P r N own (.seq x (.block id (.region i o d))) (aSeq P r N own y Q)) ⟨⟩ st := rfl
@[simp] theorem lC_seqs_loop (a : Code) (x y : Code) (tk) : go (aC P r N own (.seq (.seq x (.loop a)) y) Q) tk st = go (aC P r N own (.seq x (.loop a)) (aSeq P r N own y Q)) ⟨⟩ st := rfl
@[simp] theorem lC_seqs_scope (a : Code) (x y : Code) (tk) : go (aC P r N own (.seq (.seq x (.scope a)) y) Q) tk st = go (aC P r N own (.seq x (.scope a)) (aSeq P r N own y Q)) ⟨⟩ st := rfl
@[simp] theorem lC_seqsb_scope (a : Code) (id : Nat) (x y : Code) (tk) : go (aC P r N own (.seq (.seq x (.block id (.scope a))) y) Q) tk st = go (aC P r N own (.seq x (.block id (.scope a))) (aSeq P r N own y Q)) ⟨⟩ st := rfl
@[simp] theorem lC_seqs_range (o : Operand) (ps : Array Tmp) (a b : Code) (x y : Code) (tk) : go (aC P r N own (.seq (.seq x (.rangeFunc o ps a b)) y) Q) tk st = go (aC P r N own (.seq x (.rangeFunc o ps a b)) (aSeq P r N own y Q)) ⟨⟩ st := rfl
@[simp] theorem lC_seqsb_range (o : Operand) (ps : Array Tmp) (a b : Code) (id : Nat) (x y : Code) (tk) : go (aC P r N own (.seq (.seq x (.block id (.rangeFunc o ps a b))) y) Q) tk st = go (aC P r N own (.seq x (.block id (.rangeFunc o ps a b))) (aSeq P r N own y Q)) ⟨⟩ st := rfl
@[simp] theorem lC_seqsb_block (i : Nat) (b : Code) (id : Nat) (x y : Code) (tk) : go (aC P r N own (.seq (.seq x (.block id (.block i b))) y) Q) tk st = go (aC P r N own (.seq x (.block id (.block i b))) (aSeq P r N own y Q)) ⟨⟩ st := rfl
@[simp] theorem lC_seqb_seq (a b : Code) (id : Nat) (y : Code) (tk) : go (aC P r N own (.seq (.block id (.seq a b)) y) Q) tk st = go (aC P r N own (.block id (.seq a b)) (aSeq P r N own y Q)) ⟨⟩ st := rfl
@[simp] theorem lC_seq_cond (o : Operand) (a b : Code) (y : Code) (tk) : go (aC P r N own (.seq (.cond o a b) y) Q) tk st = go (aC P r N own (.cond o a b) (aSeq P r N own y Q)) ⟨⟩ st := rfl
@[simp] theorem lC_seqb_cond (o : Operand) (a b : Code) (id : Nat) (y : Code) (tk) : go (aC P r N own (.seq (.block id (.cond o a b)) y) Q) tk st = go (aC P r N own (.block id (.cond o a b)) (aSeq P r N own y Q)) ⟨⟩ st := rfl
@[simp] theorem lC_seq_region (i : Nat) (o : Array Oper) (d : Bool) (y : Code) (tk) : go (aC P r N own (.seq (.region i o d) y) Q) tk st = go (aC P r N own (.region i o d) (aSeq P r N own y Q)) ⟨⟩ st := rfl
@[simp] theorem lC_seqb_region (i : Nat) (o : Array Oper) (d : Bool) (id : Nat) (y : Code) (tk) : go (aC P r N own (.seq (.block id (.region i o d)) y) Q) tk st = go (aC P r N own (.block id (.region i o d)) (aSeq P r N own y Q)) ⟨⟩ st := rfl
@[simp] theorem lC_seq_loop (a : Code) (y : Code) (tk) : go (aC P r N own (.seq (.loop a) y) Q) tk st = go (aC P r N own (.loop a) (aSeq P r N own y Q)) ⟨⟩ st := rfl
@[simp] theorem lC_seq_scope (a : Code) (y : Code) (tk) : go (aC P r N own (.seq (.scope a) y) Q) tk st = go (aC P r N own (.scope a) (aSeq P r N own y Q)) ⟨⟩ st := rfl
@[simp] theorem lC_seqb_scope (a : Code) (id : Nat) (y : Code) (tk) : go (aC P r N own (.seq (.block id (.scope a)) y) Q) tk st = go (aC P r N own (.block id (.scope a)) (aSeq P r N own y Q)) ⟨⟩ st := rfl
@[simp] theorem lC_seq_range (o : Operand) (ps : Array Tmp) (a b : Code) (y : Code) (tk) : go (aC P r N own (.seq (.rangeFunc o ps a b) y) Q) tk st = go (aC P r N own (.rangeFunc o ps a b) (aSeq P r N own y Q)) ⟨⟩ st := rfl
@[simp] theorem lC_seqb_range (o : Operand) (ps : Array Tmp) (a b : Code) (id : Nat) (y : Code) (tk) : go (aC P r N own (.seq (.block id (.rangeFunc o ps a b)) y) Q) tk st = go (aC P r N own (.block id (.rangeFunc o ps a b)) (aSeq P r N own y Q)) ⟨⟩ st := rfl
@[simp] theorem lC_seqb_block (i : Nat) (b : Code) (id : Nat) (y : Code) (tk) : go (aC P r N own (.seq (.block id (.block i b)) y) Q) tk st = go (aC P r N own (.block id (.block i b)) (aSeq P r N own y Q)) ⟨⟩ st := rfl
def aWs (P : Program) (r : Option Nat) (N : Nat) (own : Bool) (id : Nat) (c y : Code) (Q : Exit → St → Prop) (_ : TokQ y Q) (st : St) : Prop := aW P r N (.block id (.loop c)) (aThen (aW P r N y Q) Q) st
@[simp] theorem lC_seq_bl (id : Nat) (c y : Code) (tk) : go (aC P r N own (.seq (.block id (.loop c)) y) Q) tk st = aWs P r N own id c y Q ⟨⟩ st := rfl
def aSlp (P : Program) (r : Option Nat) (N : Nat) (own : Bool) (id : Nat) (c y : Code) (Q : Exit → St → Prop) : Exit → St → Prop := aThen (aW P r N (.block id (.loop c)) (aThen (aW P r N y Q) Q)) Q
@[simp] theorem lSl_normal (id : Nat) (c y : Code) (tk) : go (aSlp P r N own id c y Q .normal) tk st = aWs P r N own id c y Q ⟨⟩ st := rfl
@[simp] theorem lSl_ret (id : Nat) (c y : Code) (tk) : go (aSlp P r N own id c y Q .ret) tk st = go (Q .ret) ⟨⟩ st := rfl
@[simp] theorem lSl_exit (id : Nat) (c y : Code) (i : Nat) (tk) : go (aSlp P r N own id c y Q (.exit i)) tk st = go (Q (.exit i)) ⟨⟩ st := rfl
@[simp] theorem lC_seq_seq_bl (a : Code) (id : Nat) (c y : Code) (tk) : go (aC P r N own (.seq (.seq a (.block id (.loop c))) y) Q) tk st = go (aC P r N own a (aSlp P r N own id c y Q)) ⟨⟩ st := rfl
@[simp] theorem lC_cond (c : Operand) (x y : Code) (tk) : go (aC P r N own (.cond c x y) Q) tk st = aBr (aev st.t c) (aC P r N own x Q) (aC P r N own y Q) ⟨⟩ ⟨⟩ st := by
 simp only [go, aC, aIf, aBr]
 cases aev st.t c <;> rfl
@[simp] theorem lC_block (id : Nat) (x : Code) (tk) : go (aC P r N own (.block id x) Q) tk st = go (aC P r N own x (aInBlock id Q)) ⟨⟩ st := rfl
@[simp] theorem lC_region (id : Nat) (l : List Oper) (tk) : go (aC P r N own (.region id l.toArray false) Q) tk st = go (aL P N l.toArray own l (Q .normal)) ⟨⟩ st := rfl
@[simp] theorem lC_drawn (id : Nat) (ops : Array Oper) (tk) : go (aC P r N own (.region id ops true) Q) tk st = aWh P r N (.region id ops true) Q ⟨⟩ st := rfl
@[simp] theorem lC_loop (c : Code) (tk) : go (aC P r N own (.loop c) Q) tk st = aWh P r N (.loop c) Q ⟨⟩ st := rfl
@[simp] theorem lC_scope (c : Code) (tk) : go (aC P r N own (.scope c) Q) tk st = aWh P r N (.scope c) Q ⟨⟩ st := rfl
@[simp] theorem lC_range (f : Operand) (ps : Array Tmp) (x y : Code) (tk) : go (aC P r N own (.rangeFunc f ps x y) Q) tk st = aWh P r N (.rangeFunc f ps x y) Q ⟨⟩ st := rfl
@[simp] theorem lSeq_normal (y : Code) (tk) : go (aSeq P r N own y Q .normal) tk st = go (aC P r N own y Q) ⟨⟩ st := rfl
@[simp] theorem lSeq_ret (y : Code) (tk) : go (aSeq P r N own y Q .ret) tk st = go (Q .ret) ⟨⟩ st := rfl
@[simp] theorem lSeq_exit (y : Code) (id : Nat) (tk) : go (aSeq P r N own y Q (.exit id)) tk st = go (Q (.exit id)) ⟨⟩ st := rfl
@[simp] theorem lBlock_normal (id : Nat) (tk) : go (aInBlock id Q .normal) tk st = go (Q .normal) ⟨⟩ st := rfl
@[simp] theorem lBlock_ret (id : Nat) (tk) : go (aInBlock id Q .ret) tk st = go (Q .ret) ⟨⟩ st := rfl
@[simp] theorem lBlock_self (id : Nat) (tk) : go (aInBlock id Q (.exit id)) tk st = go (Q .normal) ⟨⟩ st := by simp only [go, aInBlock, if_true]
@[simp] theorem lBlock_exit (id id' : Nat) (tk) (h : (id' == id) = false) : go (aInBlock id Q (.exit id')) tk st = go (Q (.exit id')) ⟨⟩ st := by
 have : id' ≠ id := by simpa using h
 simp only [go, aInBlock, if_neg this]
@[simp] theorem lThen_normal (K : St → Prop) (tk) : go (aThen K Q .normal) tk st = K st := rfl
@[simp] theorem lThen_ret (K : St → Prop) (tk) : go (aThen K Q .ret) tk st = go (Q .ret) ⟨⟩ st := rfl
@[simp] theorem lThen_exit (K : St → Prop) (id : Nat) (tk) : go (aThen K Q (.exit id)) tk st = go (Q (.exit id)) ⟨⟩ st := rfl
@[simp] theorem lScope_normal (tk) : go (aScope Q .normal) tk st = go (Q .normal) ⟨⟩ st := rfl
@[simp] theorem lScope_ret (tk) : go (aScope Q .ret) tk st = go (Q .ret) ⟨⟩ st := rfl
@[simp] theorem lScope_exit (id : Nat) (tk) : go (aScope Q (.exit id)) tk st = go (Q (.exit id)) ⟨⟩ st := rfl
@[simp] theorem lBody {fn : Func} {R : LV → List AObj → List Nat → Prop} (e : Exit) (tk) : go (bodyQ P fn R e) tk st = bodyQ P fn R e st := rfl
@[simp] theorem lRoundQ {l : Nat} {R : LV → List AObj → List Nat → Prop} (e : Exit) (tk) : go (roundQ l R e) tk st = roundQ l R e st := rfl
@[simp] theorem lGo2 (K : St → Prop) (tk tk') : go (go K tk) tk' st = go K ⟨⟩ st := rfl
@[simp] theorem lBr (b : Bool) (t0 t1) : aBr (.bool b) K0 K1 t0 t1 st = if b = true then go K0 ⟨⟩ st else go K1 ⟨⟩ st := rfl
@[simp] theorem lL_nil (ops : Array Oper) (tk) : go (aL P N ops own [] K) tk st = go K ⟨⟩ st := rfl
@[simp] theorem lL_cons (ops : Array Oper) (o : Oper) (rest : List Oper) (tk) : go (aL P N ops own (o :: rest) K) tk st = (dOk N o.dst ∧ aG (aGuard ops st.t o) (aSkip o.dst (aL P N ops own rest K) ⟨⟩) (aDo P own o (aL P N ops own rest K) ⟨⟩) ⟨⟩ ⟨⟩ st) := by
 simp only [go, aL, aOper, aG, aSkip, aDo, aCallee, aSome, aPut]
 cases aGuard ops st.t o with
 | none => rfl
 | some b => cases b <;> rfl
@[simp] theorem lG_false (t0 t1) : aG (some false) K0 K1 t0 t1 st = K0 st := rfl
@[simp] theorem lG_true (t0 t1) : aG (some true) K0 K1 t0 t1 st = K1 st := rfl
@[simp] theorem lSkip (d : Option Tmp) (tk) : aSkip d K tk st = go K ⟨⟩ ⟨updO d (.tup []) st.t, st.s, st.v⟩ := rfl
@[simp] theorem lDo (o : Oper) (tk) : aDo P own o K tk st = aCallee (callee o.op st.t) P own o K ⟨⟩ st := rfl
@[simp] theorem lCallee_func (o : Oper) (f : FuncId) (args : List LV) (tk) : aCallee (.func f args) P own o K tk st = aCalls P f args st.s st.v (aPut o.dst st.t K ⟨⟩) := rfl
@[simp] theorem lCallee_yld (o : Oper) (l : Nat) (args : List LV) (tk) : aCallee (.yld l args) P own o K tk st = aRound P l args st.s st.v (aPut o.dst st.t K ⟨⟩) := rfl
@[simp] theorem lCallee_no (o : Oper) (tk) : aCallee .no P own o K tk st = aSome (aopO P own o.op st) (aPut o.dst st.t K ⟨⟩) := rfl
@[simp] theorem lSome (x : LV) (s : List AObj) (v : List Nat) (K : LV → List AObj → List Nat → Prop) : aSome (some (x, s, v)) K = K x s v := rfl
@[simp] theorem lPut (d : Option Tmp) (t : Nat → LV) (x : LV) (s : List AObj) (v : List Nat) (tk) : aPut d t K tk x s v = go K ⟨⟩ ⟨updO d x t, s, v⟩ := rfl

def aPx (P : Program) (N : Nat) (ops : Array Oper) (own : Bool) (K : St → Prop) (p : Plan) (W : List (Nat × LV)) (i : Nat) (ld : Bool) (d : Option Tmp) (ox : Option LV) (st : St) : Prop := match ox with
 | some x => aPlan P N ops own K p (if ld then (i, x) :: W else W) ⟨updO d x st.t, st.s, st.v⟩
 | none => False
def aPq (P : Program) (N : Nat) (ops : Array Oper) (own : Bool) (K : St → Prop) (p : Plan) (W : List (Nat × LV)) (i : Nat) (oo : Option Oper) (st : St) : Prop := match oo with
 | some o => dOk N o.dst ∧ aPx P N ops own K p W i (loadOp o.op) o.dst (aq P ops o st) st
 | none => False
def aPk (P : Program) (N : Nat) (ops : Array Oper) (own : Bool) (K : St → Prop) (keep : List Nat) (p : Plan) (W : List (Nat × LV)) (st : St) : Prop :=
 aWatch P ops st (W.filter fun y => keep.contains y.1) ∧ aPlan P N ops own K p (W.filter fun y => keep.contains y.1) st
def aPw (P : Program) (N : Nat) (ops : Array Oper) (own : Bool) (K : St → Prop) (keep : List Nat) (p : Plan) (W : List (Nat × LV)) (oo : Option Oper) (st : St) : Prop := match oo with
 | some o => aOper P N ops o st (aPk P N ops own K keep p W) own
 | none => False
@[simp] theorem lP_nil (W : List (Nat × LV)) : aPlan P N ops own K .nil W st = K st := rfl
@[simp] theorem lP_or {ops : Array Oper} (p p' : Plan) (W : List (Nat × LV)) : aPlan P N ops own K (.or p p') W st = (aPlan P N ops own K p W st ∧ aPlan P N ops own K p' W st) := rfl
@[simp] theorem lP_q {ops : Array Oper} (i : Nat) (p : Plan) (W : List (Nat × LV)) : aPlan P N ops own K (.q i p) W st = aPq P N ops own K p W i ops[i]? st := by
 simp only [aPlan, aPq, aPx]
 cases ops[i]? with
 | none => rfl
 | some o => cases aq P ops o st <;> rfl
@[simp] theorem lP_w {ops : Array Oper} (i : Nat) (keep : List Nat) (p : Plan) (W : List (Nat × LV)) : aPlan P N ops own K (.w i keep p) W st = aPw P N ops own K keep p W ops[i]? st := by
 simp only [aPlan, aPw]
 cases ops[i]? <;> rfl
@[simp] theorem lPq {ops : Array Oper} (p : Plan) (W : List (Nat × LV)) (i : Nat) (o : Oper) : aPq P N ops own K p W i (some o) st = (dOk N o.dst ∧ aPx P N ops own K p W i (loadOp o.op) o.dst (aq P ops o st) st) := rfl
@[simp] theorem lPx {ops : Array Oper} (p : Plan) (W : List (Nat × LV)) (i : Nat) (ld : Bool) (d : Option Tmp) (x : LV) : aPx P N ops own K p W i ld d (some x) st = aPlan P N ops own K p (if ld then (i, x) :: W else W) ⟨updO d x st.t, st.s, st.v⟩ := rfl
@[simp] theorem lPw {ops : Array Oper} (keep : List Nat) (p : Plan) (W : List (Nat × LV)) (o : Oper) : aPw P N ops own K keep p W (some o) st = (dOk N o.dst ∧ aG (aGuard ops st.t o) (aSkip o.dst (aPk P N ops own K keep p W) ⟨⟩) (aDo P own o (aPk P N ops own K keep p W) ⟨⟩) ⟨⟩ ⟨⟩ st) := by
 simp only [aPw, aOper, aG, aSkip, aDo, aCallee, aSome, aPut]
 cases aGuard ops st.t o with
 | none => rfl
 | some b => cases b <;> rfl
@[simp] theorem lPk {ops : Array Oper} (keep : List Nat) (p : Plan) (W : List (Nat × LV)) (tk) : go (aPk P N ops own K keep p W) tk st = (aWatch P ops st (W.filter fun y => keep.contains y.1) ∧ aPlan P N ops own K p (W.filter fun y => keep.contains y.1) st) := rfl
end
def HidAt (K : St → Prop) (_ : Tok K) (st : St) : Prop := K st
theorem hid {K : St → Prop} {st : St} (h : K st) : HidAt K ⟨⟩ st := h

open Classical in
theorem aW_down {P : Program} {r : Option Nat} {N : Nat} {Q : Exit → St → Prop} {st : St} {c : Code} (J : Nat → St → Prop) (h0 : ∃ d, J d st)
  (round : ∀ d st, J d st → aW P r N c (aThen (fun st' => ∃ d', d' < d ∧ J d' st') Q) st) : aW P r N (.loop c) Q st := by
 refine aW_loop (fun st => ∃ d, J d st) (fun st => if h : ∃ d, J d st then Classical.choose (exists_least h) else 0) h0 fun st1 hI => ?_
 have hc := Classical.choose_spec (exists_least hI)
 refine aW_mono (round _ st1 hc.1) fun e st' h => ?_
 cases e with
 | normal =>
  obtain ⟨d', hd, hJ⟩ := h
  have hex : ∃ d, J d st' := ⟨d', hJ⟩
  refine ⟨hex, ?_⟩
  rw [dif_pos hex, dif_pos hI]
  exact Nat.lt_of_le_of_lt ((Classical.choose_spec (exists_least hex)).2 _ hJ) hd
 | _ => exact h

def I64 (a : Int) : Prop := -9223372036854775808 ≤ a ∧ a ≤ 9223372036854775807

def Ends (s : List AObj) (v : List Nat) (y x : LV) (s' : List AObj) (v' : List Nat) : Prop := (∃ J, s ++ J = s') ∧ x.under s.length = true ∧ Weak x y ∧ v <+: v'
def PureC (P : Program) (f : FuncId) (args : List LV) (y : LV) : Prop := ∀ s v, aCalls P f args s v fun x s' v' => y = x ∧ s = s' ∧ v <+: v'
theorem aCalls_ends {P : Program} {f : FuncId} {args : List LV} {y : LV} {s : List AObj} {v : List Nat} (h : aCalls P f args s v (Ends s v y)) : aCalls P f args s v fun x s' v' => y = x ∧ s = s' ∧ v <+: v' :=
 aCalls_weak (aCalls_drop (aCalls_mono h fun x s' v' ⟨⟨J, h1⟩, h2, h3, h4⟩ => ⟨s, J, h1.symm, rfl, h2, fun _ _ ho => .inl ho, y, s, h3, WeakS.refl _, rfl, rfl, h4⟩))
theorem PureC.of {P : Program} {f : FuncId} {args : List LV} {y : LV} (h : ∀ s v, aCalls P f args s v (Ends s v y)) : PureC P f args y := fun s v => aCalls_ends (h s v)
theorem Ends.at {s J : List AObj} {v v' : List Nat} {y x : LV} (h2 : x.under s.length = true) (h3 : Weak x y) (h4 : v <+: v') : Ends s v y x (s ++ J) v' := ⟨⟨J, rfl⟩, h2, h3, h4⟩
theorem Ends.same {s : List AObj} {v v' : List Nat} {y x : LV} (h2 : x.under s.length = true) (h3 : Weak x y) (h4 : v <+: v') : Ends s v y x s v' := ⟨⟨[], by simp⟩, h2, h3, h4⟩

def EndsE (s : List AObj) (v : List Nat) (y x : LV) (s' : List AObj) (v' : List Nat) : Prop := (∃ J, s ++ J = s') ∧ x.under s.length = true ∧ Weak x y ∧ v = v'
def PureE (P : Program) (f : FuncId) (args : List LV) (y : LV) : Prop := ∀ s v, aCalls P f args s v fun x s' v' => y = x ∧ s = s' ∧ v = v'
theorem PureE.of {P : Program} {f : FuncId} {args : List LV} {y : LV} (h : ∀ s v, aCalls P f args s v (EndsE s v y)) : PureE P f args y := fun s v =>
 aCalls_weak (aCalls_drop (aCalls_mono (h s v) fun x s' v' ⟨⟨J, h1⟩, h2, h3, h4⟩ => ⟨s, J, h1.symm, rfl, h2, fun _ _ ho => .inl ho, y, s, h3, WeakS.refl _, rfl, rfl, h4⟩))
theorem PureE.c {P : Program} {f : FuncId} {args : List LV} {y : LV} (h : PureE P f args y) : PureC P f args y := fun s v =>
 aCalls_mono (h s v) fun _ _ _ ⟨h1, h2, h3⟩ => ⟨h1, h2, h3 ▸ List.prefix_refl _⟩
theorem EndsE.at {s J : List AObj} {v : List Nat} {y x : LV} (h2 : x.under s.length = true) (h3 : Weak x y) : EndsE s v y x (s ++ J) v := ⟨⟨J, rfl⟩, h2, h3, rfl⟩
theorem EndsE.same {s : List AObj} {v : List Nat} {y x : LV} (h2 : x.under s.length = true) (h3 : Weak x y) : EndsE s v y x s v := ⟨⟨[], by simp⟩, h2, h3, rfl⟩

@[simp] theorem zeros_1 (z : List LV) : zeros z 1 = z := by simp [zeros]
@[simp] theorem wrap1 : IntKind.i64.wrap 1 = 1 := rfl
@[simp] theorem wrap2 : IntKind.i64.wrap 2 = 2 := rfl
end Go.Hb
end

section
namespace Go.Hb
open Go Go.RowKit Go.ChangeShapes

def start (W : World) : Ctx where
 w := W
 kept b := b < W.heap.size
 lim b := match W.heap[b]? with | some (.cells vs _ _) => vs.size | _ => 0
 ρ _ := 0
 n := 0
 τ := []
 θ _ := ⟨0, 0, 0, 0⟩

theorem start_ok (W : World) : Ok (start W) [] where
 n := rfl
 obj i o h := by simp at h
 inj i j h := absurd h (Nat.not_lt_zero _)
 own i h := absurd h (Nat.not_lt_zero _)
 tip g h := absurd h (Nat.not_lt_zero _)
 tipinj g g' h := absurd h (Nat.not_lt_zero _)
 tipown g i h := absurd h (Nat.not_lt_zero _)
 kept b h := h
 lim b h := by
  have hb : W.heap.size ≤ b := h
  have : W.heap[b]? = none := by simpa using hb
  simp [start, this]

theorem top {P : Program} {f : FuncId} {args : List LV} {vs : Array Value} {W : World} {R : LV → List AObj → List Nat → Prop} (h : aCalls P f args [] [] R) (hv : RelVs (start W) args vs.toList) :
  Calls P f vs W fun e w' => Below W.heap.size W w' ∧ ∃ C x u s v, e = .returned u ∧ RelV C x u ∧ R x s v :=
 (h.2 (start W) vs (start_ok W) rfl hv).mono fun e w' ⟨C', x, u, s', v', k1, k2, k3, k4, k5, k6, k7⟩ => by
  subst k1
  exact ⟨⟨k3.os, k3.tape, k3.output, k3.size, fun k hk => k3.keep k hk⟩, C', x, u, s', v', k2, k6, k7⟩

section
variable {H : Type} {enc : TypeId × Value → H} {P : Program}
theorem post_below {f : Func} {s : ChangeSpec} {apart fresh handsOn again : Bool} {W W' : World} {args : Array Value} {v : Value} {ds gs : List (DataW H)} {before pa pv : List MemPlace}
  (hW : DataW.Whole enc P f.params.toList s.vars apart W args.toList ds gs before) (hB : Below W.heap.size W W')
  (hres : ∀ (b : Nat) (sp : Nat → Bool) (hd : Bool), DataW.TrodAll enc P W' b sp hd f.resultTypes.toList (v.resultList f.resultTypes.size) (s.fn H (ds ++ gs)).results [])
  (hargs : ∀ sp : Nat → Bool, (∀ p ∈ before, sp p.block = true) → DataW.TrodAll enc P W' 0 sp true f.params.toList args.toList (s.fn H (ds ++ gs)).args pa)
  (hvars : ∀ sp : Nat → Bool, (∀ p ∈ before, sp p.block = true) → DataW.TrodVars enc P W' sp s.vars (s.fn H (ds ++ gs)).vars pv)
  (hps : before = pa ++ pv)
  (hok : ∀ (j : Nat) (t : TypeId) (r : Value), f.resultTypes[j]? = some t → (v.resultList f.resultTypes.size)[j]? = some r → Value.okWide P W' .any 0 t r) :
  s.post enc P f apart fresh handsOn again W args v W' := by
 have hlt := hW.lt
 obtain ⟨p, q, hA, hV, hpq, hz, hn⟩ := id hW
 subst hps
 refine ⟨ds, gs, pa ++ pv, [], pa, pv, hW, hres _ _ _, hargs _ (fun p hp => by simpa using hlt p hp), hvars _ (fun p hp => by simpa using hlt p hp), World.keptBut_mono (fun p (h : False) => h.elim) (hB.frame fun _ => False), fun _ => ?_⟩
 refine ⟨hok, _, _, ([] ++ pa) ++ pv, ⟨[] ++ pa, pv, trodAll_append (hargs _ (fun _ _ => rfl)) (hres _ _ _), hvars _ (fun _ _ => rfl), rfl, ?_, ?_⟩, ?_⟩
 ·intro b off hp
  have hb := hlt _ hp
  rw [hB.frozen (p := ⟨b, off, none⟩) hb]
  exact hz b off hp
 ·exact hn
 ·exact fun p hp _ => hp
end
end Go.Hb
end

section
namespace Go.Hb
open Go Go.RowKit Go.ChangeShapes

theorem start_lim {W : World} {b o : Nat} {v : Value} (h : W.cell? ⟨b, o, none⟩ = some v) : o < (start W).lim b := by
 simp only [start]
 unfold World.cell? at h
 split at h
 ·rename_i c t f hb
  simp at hb
  rw [hb]
  simp at h
  exact (Array.getElem?_eq_some_iff.1 h).1
 ·cases h

end Go.Hb
end

section
namespace Go.Hb
open Go Go.RowKit Go.ChangeShapes Go.WideShapes

theorem Weak.emp (sz : Nat) : Weak (.emp sz) (.imm sz 0 [] .no) := fun C v h => by
 simp only [RelV] at h ⊢
 obtain ⟨a, cap, rfl, h2⟩ := h
 exact ⟨some a, cap, rfl, Nat.zero_le _, h2, by simp, (by intro h; cases h), fun _ _ hne => absurd rfl hne, fun _ _ _ => by simp [RelCs], trivial⟩

section
variable {H : Type} (enc : TypeId × Value → H) (P : Program) (W : World)
def Near (l : List Nat) : Prop := ∀ n ∈ l, n ≤ reachBytes

def Opens {α : Type} (t : TypeId) (G : α → Prop) (X : α → List LV) : Prop :=
 ∀ fuel cs x, DataW.trod enc P W 0 (fun _ => true) true fuel t cs = some x → Near (x.1.weights P t) → ∃ a, G a ∧ RelVs (start W) (X a) cs ∧ ∀ u ∈ cs, u.oneCell' = true

variable {enc P W}

theorem opens_int {t : TypeId} {k : IntKind} (hu : P.underlying t = some (.int k)) : Opens enc P W t (fun n : Int => (Lit.int k n).wf = true) (fun n => [.int k n]) := by
 intro fuel cs x h _
 obtain ⟨n, rfl, _, hw⟩ := DataW.trod_int hu h
 exact ⟨n, hw, ⟨_, _, rfl, by simp [RelV], rfl⟩, by simp [Value.oneCell']⟩

theorem mapM_range {β : Type} {f : Nat → Option β} : ∀ (n o : Nat) {xs : List β}, (List.range' o n).mapM f = some xs → xs.length = n ∧ ∀ i, i < n → f (o + i) = xs[i]? := by
 intro n
 induction n with
 | zero => intro o xs h; simp at h; subst h; simp
 | succ n ih =>
  intro o xs h
  rw [List.range'_succ, List.mapM_cons] at h
  simp only [Option.bind_eq_bind, Option.bind_eq_some_iff, Option.pure_def, Option.some.injEq] at h
  obtain ⟨y, hy, ys, hys, rfl⟩ := h
  obtain ⟨h1, h2⟩ := ih (o + 1) hys
  refine ⟨by simp [h1], fun i hi => ?_⟩
  cases i with
  | zero => simpa using hy
  | succ i => have := h2 i (by omega); rw [show o + 1 + i = o + (i + 1) by omega] at this; simpa using this

theorem mapM_range0 {β : Type} {f : Nat → Option β} {n : Nat} {xs : List β} (h : (List.range n).mapM f = some xs) : xs.length = n ∧ ∀ i, i < n → f i = xs[i]? := by
 rw [List.range_eq_range'] at h
 obtain ⟨h1, h2⟩ := mapM_range n 0 h
 exact ⟨h1, fun i hi => by simpa using h2 i hi⟩

theorem collect {α : Type} {p : Nat → α → Prop} : ∀ (n : Nat), (∀ i, i < n → ∃ a, p i a) → ∃ l : List α, l.length = n ∧ ∀ i a, l[i]? = some a → p i a := by
 intro n
 induction n with
 | zero => intro _; exact ⟨[], rfl, by simp⟩
 | succ n ih =>
  intro h
  obtain ⟨l, h1, h2⟩ := ih fun i hi => h i (by omega)
  obtain ⟨a, ha⟩ := h n (by omega)
  refine ⟨l ++ [a], by simp [h1], fun i b hb => ?_⟩
  by_cases hi : i < l.length
  ·rw [List.getElem?_append_left hi] at hb; exact h2 i b hb
  ·rw [List.getElem?_append_right (by omega)] at hb
   have : i - l.length = 0 := by have := (List.getElem?_eq_some_iff.1 hb).1; simp at this; omega
   rw [this] at hb; simp at hb; subst hb
   have : i = n := by omega
   subst this; exact ha

theorem relCs_flat {α : Type} {X : α → List LV} {m b : Nat} {cell : Nat → Nat → Prop} : ∀ (l : List α) (o : Nat), (∀ a ∈ l, (X a).length = m) → (∀ i a, l[i]? = some a → RelCs (start W) b (X a) (o + i * m)) → RelCs (start W) b (l.flatMap X) o := by
 intro l
 induction l with
 | nil => intro o _ _; simp [RelCs]
 | cons a l ih =>
  intro o hm h
  rw [List.flatMap_cons]
  refine RelCs.app (by simpa using h 0 a rfl) ?_
  rw [hm a (by simp)]
  refine ih (o + m) (fun b hb => hm b (by simp [hb])) fun i b hb => ?_
  have := h (i + 1) b (by simpa using hb)
  rwa [show o + (i + 1) * m = o + m + i * m by rw [Nat.succ_mul]; omega] at this

theorem relCs_chunk {b : Nat} : ∀ (xs : List LV) (us : List Value) (o : Nat), RelVs (start W) xs us → (∀ u ∈ us, u.oneCell' = true) → (∀ i u, us[i]? = some u → W.cell? ⟨b, o + i, none⟩ = some u) → RelCs (start W) b xs o := by
 intro xs
 induction xs with
 | nil => intro us o _ _ _; simp [RelCs]
 | cons x xs ih =>
  intro us o h h1 h2
  obtain ⟨v, r, rfl, h3, h4⟩ := h
  have hc : W.cell? ⟨b, o, none⟩ = some v := by simpa using h2 0 v rfl
  refine ⟨⟨v, hc, start_lim hc, h1 v (by simp), h3⟩, ih r (o + 1) h4 (fun u hu => h1 u (by simp [hu])) fun i u hu => ?_⟩
  have := h2 (i + 1) u (by simpa using hu)
  rwa [show o + (i + 1) = o + 1 + i by omega] at this

theorem cell_spot {a : Addr} {v : Value} (h : W.cell? a = some v) : a.spot = none := by
 unfold World.cell? at h
 split at h
 ·split at h
  ·cases h
  ·rename_i hh; simpa using hh
 ·cases h

theorem weights_all {e : TypeId} {n : Nat} {d : DataW H} : ∀ {l : List (DataW H)}, d ∈ l → n ∈ d.weights P e → n ∈ DataW.weightsAll P e l
 | [], h, _ => absurd h (by simp)
 | c :: l, h, hn => by
  simp only [DataW.weightsAll, List.mem_append]
  rcases List.mem_cons.1 h with rfl | h
  ·exact .inl hn
  ·exact .inr (weights_all h hn)

theorem opens_slice {α : Type} {G : α → Prop} {X : α → List LV} {t e : TypeId} {m : Nat} (hu : P.underlying t = some (.slice e)) (hc : P.cellsOf e = m) (hm : m ≠ 0) (hX : ∀ a, G a → (X a).length = m) (he : Opens enc P W e G X) :
  Opens enc P W t (fun l : List α => (∀ a ∈ l, G a) ∧ l.length ≤ maxLen ∧ l.length * P.bytesOf e ≤ reachBytes) (fun l => [.imm m l.length (l.flatMap X) .no]) := by
 intro fuel cs x h hz
 cases fuel with
 | zero => simp [DataW.trod] at h
 | succ fuel =>
  simp only [DataW.trod, hu] at h
  split at h <;> (try (simp_all; done))
  ·refine ⟨[], by simp, ⟨_, _, rfl, ?_, rfl⟩, by simp [Value.oneCell']⟩
   exact Weak.nils m .no (.inl rfl) _ _ (by simp [RelV])
  ·rename_i e' a len cap heq
   simp only [Option.some.injEq, TypeDesc.slice.injEq] at heq
   subst heq
   split at h
   ·rename_i hcond
    obtain ⟨_, hlc, hcm⟩ := hcond
    simp only [Option.bind_eq_some_iff] at h
    obtain ⟨elems, hel, hx⟩ := h
    obtain ⟨hl1, hl2⟩ := mapM_range0 hel
    simp only [Option.map_eq_some_iff] at hx
    obtain ⟨rest, _, rfl⟩ := hx
    simp only [DataW.weights, hu, List.length_map] at hz
    have hz1 : (elems.length + rest.length) * P.bytesOf e ≤ reachBytes := hz _ (by simp)
    have hz2 : ∀ i (h : i < elems.length), Near (elems[i].1.weights P e) := fun i h n hn => hz n (by
     simp only [List.mem_cons, List.mem_append]
     exact .inr (.inl (weights_all (List.mem_map.2 ⟨elems[i], List.getElem_mem h, rfl⟩) hn)))
    obtain ⟨l, hll, hl⟩ := collect (p := fun i a' => ∃ us, G a' ∧ RelVs (start W) (X a') us ∧ (∀ u ∈ us, u.oneCell' = true) ∧ ∀ j u, us[j]? = some u → W.cell? ((a.add (i * m)).add j) = some u) len fun i hi => by
     have := hl2 i hi
     have hi' : i < elems.length := by omega
     rw [List.getElem?_eq_getElem hi', Option.bind_eq_some_iff] at this
     obtain ⟨us, hus, htr⟩ := this
     obtain ⟨a', g1, g2, g3⟩ := he fuel us _ htr (hz2 i hi')
     refine ⟨a', us, g1, g2, g3, fun j u hj => ?_⟩
     unfold World.cells? at hus
     rw [if_pos (Nat.zero_le _)] at hus
     obtain ⟨k1, k2⟩ := mapM_range0 hus
     rw [hc] at k1 k2
     have := k2 j (by rw [← k1]; exact (List.getElem?_eq_some_iff.1 hj).1)
     rw [this, hj]
    have hG : ∀ a' ∈ l, G a' := fun a' ha' => by
     obtain ⟨i, hi⟩ := List.getElem?_of_mem ha'
     obtain ⟨us, g, _⟩ := hl i a' hi; exact g
    have hfl : (l.flatMap X).length = len * m := by
     rw [← hll]
     clear hl hll hl1 hl2 hel hz hz1 hz2
     induction l with
     | nil => simp
     | cons a' l ih => rw [List.flatMap_cons, List.length_append, hX a' (hG a' (by simp)), ih fun b hb => hG b (by simp [hb]), List.length_cons, Nat.succ_mul]; omega
    refine ⟨l, ⟨hG, by omega, by rw [hll, ← hl1]; exact Nat.le_trans (Nat.mul_le_mul_right _ (Nat.le_add_right _ _)) hz1⟩, ⟨_, _, rfl, ?_, rfl⟩, by simp [Value.oneCell']⟩
    simp only [RelV]
    refine ⟨some a, cap, by rw [hll], by omega, hcm, by rw [hll]; exact hfl, (by intro h; cases h), fun a' ha' hne => ?_, fun b o hab => ?_, trivial⟩
    ·cases ha'
     obtain ⟨a0, ha0⟩ : ∃ a0, l[0]? = some a0 := ⟨l[0]'(by omega), by simp⟩
     obtain ⟨us, g1, g2, g3, g4⟩ := hl 0 a0 ha0
     have hlen := g2.length
     rw [hX a0 g1] at hlen
     have := g4 0 (us[0]'(by omega)) (by simp)
     have := cell_spot this
     unfold Addr.add at this
     simpa using this
    ·cases hab
     refine relCs_flat (m := m) (cell := fun _ _ => True) l o (fun a' ha' => hX a' (hG a' ha')) fun i a' hi => ?_
     obtain ⟨us, g1, g2, g3, g4⟩ := hl i a' hi
     refine relCs_chunk _ us _ g2 g3 fun j u hj => ?_
     have := g4 j u hj
     rwa [add_plain, add_plain] at this
   ·cases h

variable (enc P W) in
def OpensFs {α : Type} (N : Nat) (fs : List Field) (o : Nat) (G : α → Prop) (X : α → List LV) : Prop :=
 ∀ (fuel : Nat) (cs : List Value) (xs : List (DataW H × List MemPlace)), cs.length = N → fs.mapM (fun f => DataW.trod enc P W 0 (fun _ => true) true fuel f.type ((cs.drop f.offset).take (P.cellsOf f.type))) = some xs → Near (DataW.weightsEach P (fs.map (·.type)) (xs.map (·.1))) →
  ∃ a, G a ∧ RelVs (start W) (X a) (cs.drop o) ∧ ∀ u ∈ cs.drop o, u.oneCell' = true

theorem opensFs_nil (N : Nat) : OpensFs enc P W N [] N (fun _ : Unit => True) (fun _ => []) := fun fuel cs xs hn _ _ => ⟨(), trivial, by rw [List.drop_of_length_le (by omega)]; rfl, by rw [List.drop_of_length_le (by omega)]; simp⟩

theorem opensFs_cons {α β : Type} {G : α → Prop} {X : α → List LV} {G' : β → Prop} {X' : β → List LV} {N o m : Nat} {f : Field} {fs : List Field} (ho : f.offset = o) (hm : P.cellsOf f.type = m)
  (h1 : Opens enc P W f.type G X) (h2 : OpensFs enc P W N fs (o + m) G' X') : OpensFs enc P W N (f :: fs) o (fun p : α × β => G p.1 ∧ G' p.2) (fun p => X p.1 ++ X' p.2) := by
 intro fuel cs xs hn h hz
 rw [List.mapM_cons] at h
 simp only [Option.bind_eq_bind, Option.bind_eq_some_iff, Option.pure_def, Option.some.injEq] at h
 obtain ⟨y, hy, ys, hys, rfl⟩ := h
 simp only [List.map_cons, DataW.weightsEach] at hz
 obtain ⟨a, g1, g2, g3⟩ := h1 fuel _ y hy fun n hn => hz n (List.mem_append.2 (.inl hn))
 obtain ⟨b, k1, k2, k3⟩ := h2 fuel cs ys hn hys fun n hn => hz n (List.mem_append.2 (.inr hn))
 rw [ho, hm] at g2 g3
 have hsplit : cs.drop o = (cs.drop o).take m ++ cs.drop (o + m) := by rw [← List.drop_drop, List.take_append_drop]
 refine ⟨(a, b), ⟨g1, k1⟩, ?_, ?_⟩
 ·rw [hsplit]; exact g2.app k2
 ·rw [hsplit]
  intro u hu
  rcases List.mem_append.1 hu with h' | h'
  ·exact g3 u h'
  ·exact k3 u h'

theorem opens_struct {α : Type} {G : α → Prop} {X : α → List LV} {t : TypeId} {N : Nat} {fs : Array Field} (hu : P.underlying t = some (.struct fs)) (hc : P.cellsOf t = N) (h : OpensFs enc P W N fs.toList 0 G X) : Opens enc P W t G X := by
 intro fuel cs x hx hz
 cases fuel with
 | zero => simp [DataW.trod] at hx
 | succ fuel =>
  simp only [DataW.trod, hu] at hx
  split at hx
  ·rename_i hl
   simp only [Option.map_eq_some_iff] at hx
   obtain ⟨xs, hxs, rfl⟩ := hx
   simp only [DataW.weights, hu] at hz
   obtain ⟨a, g1, g2, g3⟩ := h fuel cs xs (by rw [hl, hc]) hxs hz
   exact ⟨a, g1, by simpa using g2, by simpa using g3⟩
  ·cases hx

theorem relVs_flat {α : Type} {X : α → List LV} {m : Nat} : ∀ (n : Nat) (l : List α) (cs : List Value), l.length = n → cs.length = n * m → (∀ i a, l[i]? = some a → RelVs (start W) (X a) ((cs.drop (i * m)).take m)) → RelVs (start W) (l.flatMap X) cs := by
 intro n
 induction n with
 | zero =>
  intro l cs h1 h2 _
  have := List.eq_nil_of_length_eq_zero h1; subst this
  have := List.eq_nil_of_length_eq_zero (by simpa using h2 : cs.length = 0); subst this
  rfl
 | succ n ih =>
  intro l cs h1 h2 h
  cases l with
  | nil => simp at h1
  | cons a l =>
   rw [List.flatMap_cons]
   have e : cs = cs.take m ++ cs.drop m := (List.take_append_drop m cs).symm
   rw [e]
   refine RelVs.app (by simpa using h 0 a rfl) (ih l (cs.drop m) (by simpa using h1) (by rw [List.length_drop, h2, Nat.succ_mul]; omega) fun i b hb => ?_)
   have := h (i + 1) b (by simpa using hb)
   rwa [List.drop_drop, show m + i * m = (i + 1) * m by rw [Nat.succ_mul]; omega]

theorem opens_array {α : Type} {G : α → Prop} {X : α → List LV} {t e : TypeId} {n m : Nat} (hu : P.underlying t = some (.array n e)) (hc : P.cellsOf t = n * m) (hm : P.cellsOf e = m) (he : Opens enc P W e G X) :
  Opens enc P W t (fun l : List α => l.length = n ∧ ∀ a ∈ l, G a) (fun l => l.flatMap X) := by
 intro fuel cs x hx hz
 cases fuel with
 | zero => simp [DataW.trod] at hx
 | succ fuel =>
  simp only [DataW.trod, hu] at hx
  split at hx
  ·rename_i hl
   simp only [Option.map_eq_some_iff] at hx
   obtain ⟨xs, hxs, rfl⟩ := hx
   obtain ⟨hl1, hl2⟩ := mapM_range0 hxs
   simp only [DataW.weights, hu] at hz
   rw [hc] at hl
   obtain ⟨l, hll, hg⟩ := collect (p := fun i a => G a ∧ RelVs (start W) (X a) ((cs.drop (i * m)).take m) ∧ ∀ u ∈ (cs.drop (i * m)).take m, u.oneCell' = true) n fun i hi => by
    have := hl2 i hi
    rw [List.getElem?_eq_getElem (by omega), hm] at this
    exact he fuel _ _ this fun k hk => hz k (weights_all (List.mem_map.2 ⟨xs[i]'(by omega), List.getElem_mem _, rfl⟩) hk)
   refine ⟨l, ⟨hll, fun a ha => ?_⟩, relVs_flat n l cs hll hl fun i a hi => (hg i a hi).2.1, fun u hu => ?_⟩
   ·obtain ⟨i, hi⟩ := List.getElem?_of_mem ha; exact (hg i a hi).1
   ·obtain ⟨j, hj⟩ := List.getElem?_of_mem hu
    have hjl := (List.getElem?_eq_some_iff.1 hj).1
    have hm0 : 0 < m := by
     rcases Nat.eq_zero_or_pos m with h0 | h0
     ·subst h0; simp at hl; subst hl; simp at hjl
     ·exact h0
    have hjm : j / m < n := by rw [Nat.div_lt_iff_lt_mul hm0]; omega
    refine (hg (j / m) (l[j / m]'(by omega)) (by simp)).2.2 u (List.mem_of_getElem? (i := j % m) ?_)
    rw [List.getElem?_take_of_lt (Nat.mod_lt _ hm0), List.getElem?_drop]
    rwa [show j / m * m + j % m = j by rw [Nat.mul_comm]; exact Nat.div_add_mod j m]
  ·cases hx

theorem opens_conv {α β : Type} {G : α → Prop} {X : α → List LV} {G' : β → Prop} {X' : β → List LV} {t : TypeId} (f : α → β) (h : Opens enc P W t G X) (hf : ∀ a, G a → G' (f a) ∧ X a = X' (f a)) : Opens enc P W t G' X' := by
 intro fuel cs x hx hz
 obtain ⟨a, g1, g2, g3⟩ := h fuel cs x hx hz
 exact ⟨f a, (hf a g1).1, by rw [← (hf a g1).2]; exact g2, g3⟩

theorem opens_i64 {t : TypeId} (hu : P.underlying t = some (.int .i64)) : Opens enc P W t I64 (fun n => [.int .i64 n]) :=
 opens_conv id (opens_int hu) fun a h => ⟨by simpa [Lit.wf, IntKind.min, IntKind.signed, IntKind.bits, I64] using h, rfl⟩
theorem arg_one {α : Type} {G : α → Prop} {x : α → LV} {t : TypeId} {v : Value} {d : DataW H} {ps : List MemPlace} (h : Opens enc P W t G (fun a => [x a])) (hv : v.cells.toList = [v]) (ht : DataW.Trod enc P W 0 (fun _ => true) true t v d ps) (hz : Near (d.weights P t)) :
  ∃ a, G a ∧ RelV (start W) (x a) v := by
 obtain ⟨fuel, ht⟩ := ht
 rw [hv] at ht
 obtain ⟨a, g1, ⟨u, r, e, g2, _⟩, _⟩ := h fuel _ _ ht hz
 cases e
 exact ⟨a, g1, g2⟩

theorem arg_agg {α : Type} {G : α → Prop} {X : α → List LV} {t : TypeId} {v : Value} {d : DataW H} {ps : List MemPlace} (h : Opens enc P W t G X) (hv : ∃ cs, v = .agg cs) (ht : DataW.Trod enc P W 0 (fun _ => true) true t v d ps) (hz : Near (d.weights P t)) :
  ∃ a, G a ∧ RelV (start W) (.agg (X a)) v := by
 obtain ⟨cs, rfl⟩ := hv
 obtain ⟨fuel, ht⟩ := ht
 obtain ⟨a, g1, g2, g3⟩ := h fuel _ _ ht hz
 refine ⟨a, g1, ?_⟩
 simp only [RelV]
 exact ⟨cs, rfl, by simpa [Value.cells] using g2, fun u hu => g3 u (by simpa [Value.cells] using hu)⟩
end

end Go.Hb
namespace Go.Hb
open Go
theorem near_each {H : Type} {P : Program} {ts : List TypeId} {ds : List (DataW H)} (h : (DataW.weightsEach P ts ds).all (· ≤ reachBytes) = true) {j : Nat} {t : TypeId} {d : DataW H} (ht : ts[j]? = some t) (hd : ds[j]? = some d) : Near (d.weights P t) := fun n hn => by
 have := List.all_eq_true.1 h _ (DataW.weights_mem_each ht hd n hn)
 simpa using this
end Go.Hb
end

section
namespace Go.Hb
open Go Go.RowKit Go.ChangeShapes Go.WideShapes

section
variable {H : Type} {enc : TypeId × Value → H} {P : Program} {W : World}

theorem trodAll_stays (hl : laidOutB P = true) : ∀ {ts : List TypeId} {vs : List Value} {ds : List (DataW H)} {ps : List MemPlace} {W' : World} {sp : Nat → Bool}, (∀ t ∈ ts, P.readableRec t = true ∧ t < P.types.size) →
  DataW.TrodAll enc P W 0 (fun _ => true) true ts vs ds ps → (∀ p ∈ ps, W.sameAt W' p) → (∀ p ∈ ps, sp p.block = true) → DataW.TrodAll enc P W' 0 sp true ts vs ds ps := by
 intro ts
 induction ts with
 | nil => intro vs ds ps W' sp _ h _ _; cases vs <;> cases ds <;> simp [DataW.TrodAll] at h ⊢; exact h
 | cons t ts ih =>
  intro vs ds ps W' sp hr h hs hsp
  obtain ⟨v, vs', d, ds', p, q, rfl, rfl, rfl, h1, h2⟩ := trodAll_cons h
  obtain ⟨r1, r2⟩ := hr t (by simp)
  exact trodAll_cons_mk (WideElems.Trod_stays hl r1 r2 h1 (fun x hx => hs x (by simp [hx])) (fun x hx => hsp x (by simp [hx]))) (ih (fun t ht => hr t (by simp [ht])) h2 (fun x hx => hs x (by simp [hx])) (fun x hx => hsp x (by simp [hx])))

theorem trodAll_length : ∀ {ts : List TypeId} {vs : List Value} {ds : List (DataW H)} {ps : List MemPlace}, DataW.TrodAll enc P W 0 (fun _ => true) true ts vs ds ps → vs.length = ts.length ∧ ds.length = ts.length := by
 intro ts
 induction ts with
 | nil => intro vs ds ps h; cases vs <;> cases ds <;> simp [DataW.TrodAll] at h ⊢
 | cons t ts ih =>
  intro vs ds ps h
  obtain ⟨v, vs', d, ds', p, q, rfl, rfl, rfl, h1, h2⟩ := trodAll_cons h
  obtain ⟨a, b⟩ := ih h2
  simp [a, b]

theorem law_step {f : FuncId} {fn : Func} {s : ChangeSpec} {tb : TypeId} (hb : P.underlying tb = some .bool) (hres : fn.resultTypes = #[tb]) (hl : laidOutB P = true) (hr : ∀ t ∈ fn.params.toList, P.readableRec t = true ∧ t < P.types.size) (hvars : s.vars = [])
  (hfn : ∀ ds : List (DataW H), ds.length = fn.params.size → s.fn H ds = { results := [.lit (.bool true)], args := ds })
  {args : Array Value} {ds gs : List (DataW H)} {before : List MemPlace} (hW : DataW.Whole enc P fn.params.toList s.vars false W args.toList ds gs before)
  (walk : ∀ p, DataW.TrodAll enc P W 0 (fun _ => true) true fn.params.toList args.toList ds p → Calls P f args W fun e w' => e = .returned (.bool true) ∧ Below W.heap.size W w') :
  Calls P f args W fun e W' => ∃ v, e = .returned v ∧ s.post enc P fn false true false false W args v W' := by
 have hW' := hW
 obtain ⟨p, q, hA, hV, rfl, hfz, hnd⟩ := hW
 rw [hvars] at hV
 obtain ⟨rfl, rfl⟩ := trodVars_none hV
 have hlen := (trodAll_length hA).2
 have hspec := hfn ds (by simpa using hlen)
 refine (walk p hA).mono fun e W' ⟨he, hg⟩ => ?_
 subst he
 have hlt := hW'.lt
 refine ⟨_, rfl, post_below (pa := p) (pv := []) hW' hg (fun b sp hd => ?_) (fun sp hsp => ?_) (fun sp _ => ?_) rfl (ok_one hres rfl (okWide_bool_mk hb _))⟩
 ·rw [List.append_nil, hspec, hres]
  exact trodAll_cons_mk (shut_bool hb _) trodAll_mk0
 ·rw [List.append_nil, hspec]
  exact trodAll_stays hl hr hA (fun x hx => hg.same (hlt x (by simp [hx]))) (fun x hx => hsp x (by simp [hx]))
 ·rw [List.append_nil, hspec, hvars]; rfl

theorem okWide_array {n : Nat} {e : TypeId} {r : Reach} {base : Nat} {t : TypeId} {v : Value} (ht : P.underlying t = some (.array n e)) (h : Value.okWide P W r base t v) : ∃ cs, v = .agg cs := by
 simp only [Value.okWide, ht] at h
 obtain ⟨cs, h1, _⟩ := h
 exact ⟨cs, h1⟩
theorem okWide_agg {fs : Array Field} {r : Reach} {base : Nat} {t : TypeId} {v : Value} (ht : P.underlying t = some (.struct fs)) (h : Value.okWide P W r base t v) : ∃ cs, v = .agg cs := by
 obtain ⟨cs, h1, _⟩ := okWide_struct ht h
 exact ⟨cs, h1⟩
theorem okWide_sl {e : TypeId} {r : Reach} {base : Nat} {t : TypeId} {v : Value} (ht : P.underlying t = some (.slice e)) (h : Value.okWide P W r base t v) : v.cells.toList = [v] := by
 obtain ⟨a, l, c, rfl⟩ := okWide_slice ht h; rfl
theorem okWide_in {k : IntKind} {r : Reach} {base : Nat} {t : TypeId} {v : Value} (ht : P.underlying t = some (.int k)) (h : Value.okWide P W r base t v) : v.cells.toList = [v] := by
 simp only [Value.okWide, ht, Cell.okWide] at h
 cases v <;> simp_all [Cell.ok, Value.cells]
end

theorem top_true {P : Program} {f : FuncId} {args : List LV} {vs : Array Value} {W : World} (h : aCalls P f args [] [] fun y _ _ => y = .bool true) (hv : RelVs (start W) args vs.toList) :
  Calls P f vs W fun e w' => e = .returned (.bool true) ∧ Below W.heap.size W w' :=
 (top h hv).mono fun e w' ⟨hB, C, x, u, s, v, he, hu, hx⟩ => by
  subst hx; simp only [RelV] at hu; subst hu; exact ⟨he, hB⟩
end Go.Hb
end

