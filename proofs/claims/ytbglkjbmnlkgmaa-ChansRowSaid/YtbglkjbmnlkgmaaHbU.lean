import Derived.Test.YtbglkjbmnlkgmaaHbT
namespace Go.Hb
open Go Go.RowKit

theorem watch_mem {P : Program} {ops : Array Oper} {st : St} : ∀ {W : List (Nat × LV)}, aWatch P ops st W → ∀ {j : Nat} {x : LV} {o : Oper}, (j, x) ∈ W → ops[j]? = some o → aq P ops o st = some x := by
  intro W
  induction W with
  | nil => intro _ j x o h; cases h
  | cons y W ih =>
    intro h j x o hm ho
    obtain ⟨k, z⟩ := y
    obtain ⟨h1, h2⟩ := h
    rcases List.mem_cons.1 hm with h3 | h3
    · cases h3
      simpa [ho] using h1
    · exact ih h2 h3 ho

/-- The branch of a writer that may come up. -/
theorem plan_branch {P : Program} {N : Nat} {ops : Array Oper} {K : St → Prop} {Labs : Array Bool} {W : List (Nat × LV)} {st : St} {i : Nat} : ∀ (p : Plan) (top : Bool), (∀ j q, p ≠ .q j q) → p.ok ops top Labs (W.map (·.1)) = true → aPlan P N ops K p W st → i ∈ p.heads →
    ∃ (keep : List Nat) (p' : Plan) (o : Oper), ops[i]? = some o ∧ (∀ j ∈ W.map (·.1), keep.contains j = true ∨ anc ops ops.size j i = true) ∧ p'.ok ops true (Labs.setIfInBounds i true) ((W.filter fun y => keep.contains y.1).map (·.1)) = true ∧
      aOper P N ops o st fun st' => aWatch P ops st' (W.filter fun y => keep.contains y.1) ∧ aPlan P N ops K p' (W.filter fun y => keep.contains y.1) st' := by
  intro p
  induction p with
  | nil => intro top _ _ _ h; simp [Plan.heads] at h
  | q j p _ => intro top h; exact absurd rfl (h j p)
  | w j keep p _ =>
    intro top _ hok hpl hi
    simp only [Plan.heads, List.mem_singleton] at hi
    subst hi
    simp only [Plan.ok, Bool.and_eq_true, List.all_eq_true, Bool.or_eq_true] at hok
    obtain ⟨⟨⟨_, h2⟩, h3⟩, h4⟩ := hok
    simp only [aPlan] at hpl
    cases ho : ops[i]? with
    | none => simp [ho] at hpl
    | some o =>
      simp only [ho] at hpl
      refine ⟨keep, p, o, rfl, h3, ?_, hpl⟩
      have e : ∀ W : List (Nat × LV), (W.filter fun y => keep.contains y.1).map (·.1) = (W.map (·.1)).filter keep.contains := by
        intro W
        induction W with
        | nil => rfl
        | cons y W ih =>
          simp only [List.filter_cons, List.map_cons]
          split <;> simp_all
      rw [e]; exact h4
  | or p p' ih ih' =>
    intro top _ hok hpl hi
    simp only [Plan.ok, Bool.and_eq_true] at hok
    obtain ⟨⟨_, h2⟩, h3⟩ := hok
    have hnq : ∀ (p : Plan), p.ok ops false Labs (W.map (·.1)) = true → ∀ j q, p ≠ .q j q := by
      intro p hp j q e; subst e; simp [Plan.ok] at hp
    simp only [Plan.heads, List.mem_append] at hi
    rcases hi with hi | hi
    · exact ih false (hnq p h2) h2 hpl.1 hi
    · exact ih' false (hnq p' h3) h3 hpl.2 hi

open Classical in
theorem Body.step {P : Program} {r : Option Nat} {N : Nat} {ops : Array Oper} {K : St → Prop} {B : Nat} {C0 C : Ctx} {L : Array Bool} {a : Act} (Q' : Exit → Act → World → Prop) (hf : flowOk ops = true) (h4 : rOk C0.n r) {p : Plan} {Labs : Array Bool} {W : List (Nat × LV)} {st : St} (h : Body P N ops K B C0 p Labs W st C L a)
    {i : Nat} (hi : i ∈ rdy ops L) : wpOpIn (Fr C0 r) 0 P ops Q' i (fun a' w' => ∃ p' Labs' W' st' C', C'.w = w' ∧ Body P N ops K B C0 p' Labs' W' st' C' (L.setIfInBounds i true) a') a C.w := by
  obtain ⟨p, Labs, W, st, h, hnq⟩ := Body.sat hf p Labs W st h
  obtain ⟨hnL, o, ho, hedges⟩ := (mem_rdy h.l).1 hi
  have hltL : i < L.size := by rw [h.l]; exact (Array.getElem?_eq_some_iff.1 ho).1
  -- what lags is not known yet
  let lagging : Nat → Prop := fun d => ∃ j oj, on Labs j ∧ ¬ on L j ∧ ops[j]? = some oj ∧ oj.dst = some d
  let t' : Nat → LV := fun d => if lagging d then .any else st.t d
  have hrel : RelS C N B t' a := by
    refine ⟨h.size, fun d => ?_, h.marks⟩
    show RelV C (if lagging d then .any else st.t d) _
    by_cases hl : lagging d
    · rw [if_pos hl]; simp [RelV]
    · rw [if_neg hl]; exact (h.rel d).resolve_right hl
  have hreads : ∀ d ∈ reads ops o, st.t d = t' d := by
    intro d hd
    have hl : ¬ lagging d := by
      rintro ⟨j, oj, j1, j2, j3, j4⟩
      obtain ⟨e, he, hb, hon⟩ := flow_reads hf ho j3 j4 hd
      exact j2 (hon ▸ hedges e he hb)
    show st.t d = if lagging d then .any else st.t d
    rw [if_neg hl]
  have hselfL : ∀ d, o.dst = some d → ∀ j oj, on Labs j → ops[j]? = some oj → oj.dst = some d → j = i := fun d hd j oj _ hoj hd' => (flow_dst hf ho hoj hd' hd).symm
  by_cases hLi : on Labs i
  · -- it was reckoned ahead
    obtain ⟨k1, k2, x, k3, k4, k5⟩ := h.lag i o hLi hnL ho
    have hop : aOper P N ops o ⟨t', st.s, st.v⟩ (fun st'' => st'' = ⟨updO o.dst x t', st.s, st.v⟩) := by
      refine ⟨k2, ?_⟩
      have k3' : aq P ops o ⟨t', st.s, st.v⟩ = some x := by rw [← k3]; exact (aq_congr hreads).symm
      unfold aq at k3'
      cases hg : aGuard ops t' o with
      | none => simp [hg] at k3'
      | some b =>
        cases b with
        | false => simp only [hg, Option.some.injEq] at k3' ⊢; rw [k3']
        | true =>
          simp only [hg, Option.map_eq_some_iff] at k3' ⊢
          obtain ⟨⟨y, s', v'⟩, k6, k7⟩ := k3'
          simp only at k7; subst k7
          obtain ⟨rfl, rfl⟩ := aop_quiet k1 k6
          have hc : callee o.op t' = .no := by
            unfold callee
            cases hop : o.op <;> simp only [hop, quietOp] at k1 ⊢ <;> (try (cases k1; done))
            rename_i c
            cases hcc : c.callee <;> simp only [hcc] at k1 ⊢ <;> (try (cases k1; done))
          simp only [hc, aopO_false, k6]
    have hs := aOper_sound (r := r) Q' ho hop B C a h.Ok h.τ hrel (rOk.mono h.le h4)
    rw [Fr.eq h.le h4] at hs
    refine wpOpIn_mono ?_ hs
    rintro a' w' ⟨C', st'', rfl, m1, m2, m3, m4, rfl⟩
    obtain ⟨m5, m6, m7⟩ := m4
    refine ⟨p, Labs, W, st, C', rfl, ⟨h.ok, h.plan, h.le.trans m1, m2, m3, m5, m7, h.labs, by simpa using h.l, ?_, closed_set h.l h.cl hi, h.cabs, ?_, ?_⟩⟩
    · intro j hj; rw [on_set hltL] at hj; rcases hj with hj | rfl
      · exact h.sub j hj
      · exact hLi
    · intro j oj hj hj' hoj
      rw [on_set hltL] at hj'
      exact h.lag j oj hj (fun hh => hj' (.inl hh)) hoj
    · intro d
      have m6d := m6 d
      simp only at m6d
      by_cases hd : o.dst = some d
      · left
        rw [hd, updO_eq] at m6d
        rw [k4 d hd]; exact m6d
      · rw [updO_ne hd] at m6d
        by_cases hl : lagging d
        · obtain ⟨j, oj, j1, j2, j3, j4⟩ := hl
          right
          refine ⟨j, oj, j1, fun hh => ?_, j3, j4⟩
          rw [on_set hltL] at hh
          rcases hh with hh | rfl
          · exact j2 hh
          · rw [ho] at j3; cases j3; exact hd j4
        · left
          have e : t' d = st.t d := if_neg hl
          rw [e] at m6d; exact m6d
  · -- it writes, or calls
    have hiabs : i ∈ rdy ops Labs := (mem_rdy h.labs).2 ⟨hLi, o, ho, fun e he hb => h.sub _ (hedges e he hb)⟩
    have hlt : i < Labs.size := by rw [h.labs]; exact (Array.getElem?_eq_some_iff.1 ho).1
    have hhead : i ∈ p.heads := by
      have hok := h.ok
      cases p with
      | nil => simp only [Plan.ok, Bool.true_and, List.isEmpty_iff] at hok; rw [hok] at hiabs; cases hiabs
      | q j q => exact absurd rfl (hnq j q)
      | w j keep q =>
        simp only [Plan.ok, Bool.and_eq_true, Bool.not_true, Bool.false_or, headsOk, List.all_eq_true] at hok
        have := hok.1.1.1.2 i hiabs
        simp only [List.contains_eq_mem, decide_eq_true_eq] at this
        exact this.2
      | or q q' =>
        simp only [Plan.ok, Bool.and_eq_true, Bool.not_true, Bool.false_or, headsOk, List.all_eq_true] at hok
        have := hok.1.1.2 i hiabs
        simp only [List.contains_eq_mem, decide_eq_true_eq] at this
        exact this.2
    obtain ⟨keep, p', o', ho', hkeep, hok', hop⟩ := plan_branch p true hnq h.ok h.plan hhead
    rw [ho] at ho'; cases ho'
    let W' := W.filter fun y => keep.contains y.1
    have hop' : aOper P N ops o ⟨t', st.s, st.v⟩ (fun st'' => ∃ x, st''.t = updO o.dst x t' ∧ aWatch P ops ⟨updO o.dst x st.t, st''.s, st''.v⟩ W' ∧ aPlan P N ops K p' W' ⟨updO o.dst x st.t, st''.s, st''.v⟩) := by
      obtain ⟨hd, hop⟩ := hop
      refine ⟨hd, ?_⟩
      rw [guard_congr hreads, callee_congr hreads] at hop
      cases hg : aGuard ops t' o with
      | none => simp [hg] at hop
      | some b =>
        cases b with
        | false => simp only [hg] at hop ⊢; exact ⟨_, rfl, hop⟩
        | true =>
          simp only [hg] at hop ⊢
          cases hc : callee o.op t' with
          | bad => simp [hc] at hop
          | func f args => simp only [hc] at hop ⊢; exact aCalls_mono hop fun x s v hh => ⟨x, rfl, hh⟩
          | yld l args =>
            simp only [hc] at hop ⊢
            intro C vs q1 q2 q3
            obtain ⟨q4, fn, tmps, assign, body, q5, q6⟩ := hop C vs q1 q2 q3
            exact ⟨q4, fn, tmps, assign, body, q5, fun F hF => (q6 F hF).mono fun e w' ⟨C', x, u, s', v', y1, y2, y3, y4, y5, y6, y7⟩ => ⟨C', x, u, s', v', y1, y2, y3, y4, y5, y6, x, rfl, y7⟩⟩
          | no =>
            simp only [hc] at hop ⊢
            have e : aopO P false o.op st = aopO P false o.op ⟨t', st.s, st.v⟩ := aopO_congr (operands_congr hreads)
            rw [e] at hop
            cases ha : aopO P false o.op ⟨t', st.s, st.v⟩ with
            | none => simp [ha] at hop
            | some y => obtain ⟨x, s, v⟩ := y; simp only [ha] at hop ⊢; exact ⟨x, rfl, hop⟩
    have hs := aOper_sound (r := r) Q' ho hop' B C a h.Ok h.τ hrel (rOk.mono h.le h4)
    rw [Fr.eq h.le h4] at hs
    refine wpOpIn_mono ?_ hs
    rintro a' w' ⟨C', st'', rfl, m1, m2, m3, m4, x, m8, m9, m10⟩
    obtain ⟨m5, m6, m7⟩ := m4
    have hnr : ∀ j oj, on Labs j → ops[j]? = some oj → ∀ d, o.dst = some d → d ∉ reads ops oj := by
      intro j oj hj hoj d hd' hr'
      obtain ⟨e, he, hb, hon⟩ := flow_reads hf hoj ho hd' hr'
      exact hLi (hon ▸ h.cabs j oj hj hoj e he hb)
    refine ⟨p', Labs.setIfInBounds i true, W', ⟨updO o.dst x st.t, st''.s, st''.v⟩, C', rfl, ⟨hok', m10, h.le.trans m1, m2, m3, m5, m7, by simpa using h.labs, by simpa using h.l, ?_, closed_set h.l h.cl hi, closed_set h.labs h.cabs hiabs, ?_, ?_⟩⟩
    · intro j hj; rw [on_set hltL] at hj; rw [on_set hlt]; rcases hj with hj | hj
      · exact .inl (h.sub j hj)
      · exact .inr hj
    · intro j oj hj hj' hoj
      rw [on_set hltL] at hj'
      rw [on_set hlt] at hj
      have hji : j ≠ i := fun e => hj' (.inr e)
      have hj2 := hj.resolve_right hji
      have hj3 : ¬ on L j := fun e => hj' (.inl e)
      obtain ⟨k1, k2, y, k3, k4, k5⟩ := h.lag j oj hj2 hj3 hoj
      refine ⟨k1, k2, y, ?_, ?_, ?_⟩
      · cases hl : loadOp oj.op with
        | true =>
          have hmem := k5 hl
          have hk := hkeep j (List.mem_map.2 ⟨(j, y), hmem, rfl⟩)
          have hna : ¬ anc ops ops.size j i = true := fun hh => hj3 (anc_on h.cl _ _ _ hh fun o' ho' e he hb => by rw [ho] at ho'; cases ho'; exact hedges e he hb)
          have hk2 := hk.resolve_right hna
          exact watch_mem m9 (List.mem_filter.2 ⟨hmem, hk2⟩) hoj
        | false =>
          rw [← k3]
          rw [aq_pure (s' := st.s) (v' := st.v) k1 hl]
          exact (aq_congr fun d hd' => (updO_ne (fun e => hnr j oj hj2 hoj d e hd')).symm).symm
      · intro d hd'
        simp only
        rw [updO_ne (fun e => hji (flow_dst hf ho hoj hd' e).symm)]
        exact k4 d hd'
      · intro hl
        have hmem := k5 hl
        have hk := hkeep j (List.mem_map.2 ⟨(j, y), hmem, rfl⟩)
        have hna : ¬ anc ops ops.size j i = true := fun hh => hj3 (anc_on h.cl _ _ _ hh fun o' ho' e he hb => by rw [ho] at ho'; cases ho'; exact hedges e he hb)
        exact List.mem_filter.2 ⟨hmem, hk.resolve_right hna⟩
    · intro d
      have m6d := m6 d
      rw [m8] at m6d
      by_cases hd : o.dst = some d
      · left
        rw [hd, updO_eq] at m6d
        simp only [hd, updO_eq]; exact m6d
      · rw [updO_ne hd] at m6d
        by_cases hl : lagging d
        · obtain ⟨j, oj, j1, j2, j3, j4⟩ := hl
          right
          refine ⟨j, oj, (on_set hlt).2 (.inl j1), fun hh => ?_, j3, j4⟩
          rw [on_set hltL] at hh
          rcases hh with hh | rfl
          · exact j2 hh
          · exact hLi j1
        · left
          have e : t' d = st.t d := if_neg hl
          rw [e] at m6d
          simp only; rw [updO_ne hd]; exact m6d

def left (L : Array Bool) : Nat := (L.toList.filter (! ·)).length

theorem left_set {L : Array Bool} {i : Nat} (hi : i < L.size) (hn : ¬ on L i) : left (L.setIfInBounds i true) < left L := by
  have h0 : L.toList[i]? = some false := by
    unfold on at hn
    simp only [Array.getD_eq_getD_getElem?, Array.getElem?_eq_getElem hi, Option.getD_some] at hn
    simp [hi]; simpa using hn
  unfold left
  rw [Array.toList_setIfInBounds]
  generalize L.toList = l at h0
  clear hi hn
  induction l generalizing i with
  | nil => simp at h0
  | cons b l ih =>
    cases i with
    | zero => simp at h0; subst h0; simp
    | succ i =>
      simp at h0
      have := ih h0
      simp only [List.set_cons_succ, List.filter_cons]
      split <;> simp <;> omega

theorem wpAnyIn_inv {P : Program} {F : Fence} {n : Nat} {ops : Array Oper} {Q : Exit → Act → World → Prop} (I : Array Bool → Act → World → Prop) (hsz : ∀ L a w, I L a w → L.size = ops.size)
    (step : ∀ L a w i, I L a w → i ∈ rdy ops L → wpOpIn F n P ops Q i (I (L.setIfInBounds i true)) a w) (done : ∀ L a w, I L a w → rdy ops L = [] → Q .normal a w) :
    ∀ (fuel : Nat) (L : Array Bool) (a : Act) (w : World), left L ≤ fuel → I L a w → wpAnyIn F n P .any ops Q fuel L a w := by
  intro fuel
  induction fuel with
  | zero =>
    intro L a w hl h
    have : rdy ops L = [] := by
      cases hr : rdy ops L with
      | nil => rfl
      | cons i rs =>
        have hi : i ∈ rdy ops L := by rw [hr]; simp
        obtain ⟨hn, o, ho, _⟩ := (mem_rdy (hsz _ _ _ h)).1 hi
        have := left_set (L := L) (i := i) (by rw [hsz _ _ _ h]; exact (Array.getElem?_eq_some_iff.1 ho).1) hn
        omega
    exact ⟨this, done _ _ _ h this⟩
  | succ fuel ih =>
    intro L a w hl h
    refine ⟨done _ _ _ h, fun i hi => ?_⟩
    obtain ⟨hn, o, ho, _⟩ := (mem_rdy (hsz _ _ _ h)).1 hi
    have := left_set (L := L) (i := i) (by rw [hsz _ _ _ h]; exact (Array.getElem?_eq_some_iff.1 ho).1) hn
    exact wpOpIn_mono (fun a w h' => ih _ a w (by omega) h') (step _ _ _ i h hi)

theorem Body.done {P : Program} {N : Nat} {ops : Array Oper} {K : St → Prop} {B : Nat} {C0 C : Ctx} {L : Array Bool} {a : Act} (hf : flowOk ops = true) {p : Plan} {Labs : Array Bool} {W : List (Nat × LV)} {st : St} (h : Body P N ops K B C0 p Labs W st C L a)
    (hr : rdy ops L = []) : ∃ st', Hb.Ok C st'.s ∧ C.τ = st'.v ∧ RelS C N B st'.t a ∧ K st' := by
  obtain ⟨p, Labs, W, st, h, hnq⟩ := Body.sat hf p Labs W st h
  have hall : ∀ j, ∀ o, ops[j]? = some o → on Labs j → on L j := by
    intro j
    induction j using Nat.strongRecOn with
    | _ j ih =>
      intro o ho hj
      by_cases hL : on L j
      · exact hL
      · have : j ∈ rdy ops L := (mem_rdy h.l).2 ⟨hL, o, ho, fun e he hb => by
          have hlt := flow_back hf ho he hb
          have hon := h.cabs j o hj ho e he hb
          have hs : e.on < ops.size := by have := (Array.getElem?_eq_some_iff.1 ho).1; omega
          exact ih e.on hlt ops[e.on] (by simp [hs]) hon⟩
        rw [hr] at this; cases this
  have hr2 : rdy ops Labs = [] := by
    cases hrr : rdy ops Labs with
    | nil => rfl
    | cons i rs =>
      have hi : i ∈ rdy ops Labs := by rw [hrr]; simp
      obtain ⟨hn, o, ho, he⟩ := (mem_rdy h.labs).1 hi
      have : i ∈ rdy ops L := (mem_rdy h.l).2 ⟨fun hL => hn (h.sub i hL), o, ho, fun e he' hb => by
        have hon := he e he' hb
        have hlt := flow_back hf ho he' hb
        have hs : e.on < ops.size := by have := (Array.getElem?_eq_some_iff.1 ho).1; omega
        exact hall e.on ops[e.on] (by simp [hs]) hon⟩
      rw [hr] at this; cases this
  have hok := h.ok
  have hpl := h.plan
  refine ⟨st, h.Ok, h.τ, ⟨h.size, fun d => ?_, h.marks⟩, ?_⟩
  · rcases h.rel d with h1 | ⟨j, o, j1, j2, j3, j4⟩
    · exact h1
    · exact absurd (hall j o j3 j1) j2
  · cases p with
    | nil => exact hpl
    | q j q => exact absurd rfl (hnq j q)
    | w j k q => simp [Plan.ok, headsOk, hr2] at hok
    | or q q' => simp [Plan.ok, headsOk, hr2] at hok

/-- A region that draws its order, reckoned along a plan. -/
theorem aW_draw {P : Program} {r : Option Nat} {N id : Nat} {ops : Array Oper} {Q : Exit → St → Prop} {st : St} (p : Plan) (hm : P.follows .mixedOrders = true) (hf : flowOk ops = true) (hp : p.ok ops true (Array.replicate ops.size false) [] = true)
    (h : aPlan P N ops (Q .normal) p [] st) : aW P r N (.region id ops true) Q st := by
  intro B C a h1 h2 h3 h4
  refine wpIn_region_any hm ?_
  obtain ⟨h5, h6, h7⟩ := h3
  have hoff : ∀ i, ¬ on (Array.replicate ops.size false) i := by
    intro i hi
    unfold on at hi
    rw [Array.getD_eq_getD_getElem?] at hi
    by_cases hs : i < ops.size <;> simp [hs] at hi
  have hdr : C.drew.w = { C.w with drawn := C.w.drawn + 1 } := rfl
  rw [← hdr]
  refine wpAnyIn_inv (fun L a w => ∃ p Labs W st' C', C'.w = w ∧ Body P N ops (Q .normal) B C p Labs W st' C' L a) ?_ ?_ ?_ _ _ _ _ ?_ ?_
  · rintro L a w ⟨p, Labs, W, st', C', _, hb⟩; exact hb.l
  · rintro L a w i ⟨p, Labs, W, st', C', rfl, hb⟩ hi
    exact hb.step _ hf h4 hi
  · rintro L a w ⟨p, Labs, W, st', C', rfl, hb⟩ hr
    obtain ⟨st2, k1, k2, k3, k4⟩ := hb.done hf hr
    exact ⟨C', st2, rfl, hb.le, k1, k2, k3, k4⟩
  · unfold left
    refine Nat.le_trans (List.length_filter_le _ _) (by simp)
  · refine ⟨p, _, [], st, C.drew, rfl, ⟨hp, h, C.le_drew, h1.drew, h2, h5, RelD.mono C.le_drew h7, by simp, by simp, fun i hi => hi, fun i o hi => absurd hi (hoff i), fun i o hi => absurd hi (hoff i), fun j o hj => absurd hj (hoff j), fun d => .inl (RelV.mono C.le_drew _ _ (h6 d))⟩⟩
end Go.Hb
