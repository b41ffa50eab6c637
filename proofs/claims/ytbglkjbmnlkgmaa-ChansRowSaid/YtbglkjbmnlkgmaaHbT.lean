import Derived.Test.YtbglkjbmnlkgmaaHbS
namespace Go.Hb
open Go Go.RowKit

/-- In what order a region's operations are reckoned: q: a quiet one; w: one that writes or calls ('keep': the loads that may still come behind it); or: the writers that may come up at one time. -/
inductive Plan where
  | nil
  | q (i : Nat) (p : Plan)
  | w (i : Nat) (keep : List Nat) (p : Plan)
  | or (p p' : Plan)

/-- Quiet ones, one behind the other. -/
def Plan.qs : List Nat → Plan → Plan
  | [], p => p
  | i :: l, p => .q i (Plan.qs l p)

def rdy (ops : Array Oper) (L : Array Bool) : List Nat := Region.ready .any ops L

/-- Does j come before i in every order? -/
def anc (ops : Array Oper) : Nat → Nat → Nat → Bool
  | 0, _, _ => false
  | k + 1, j, i => match ops[i]? with
    | some o => o.after.toList.any fun e => Region.binds .any e && (e.on == j || anc ops k j e.on)
    | none => false

def Plan.heads : Plan → List Nat
  | .w i _ _ => [i]
  | .or p p' => p.heads ++ p'.heads
  | _ => []

def isQuiet (ops : Array Oper) (i : Nat) : Bool := match ops[i]? with | some o => quietOp o.op | none => false
def isLoad (ops : Array Oper) (i : Nat) : Bool := match ops[i]? with | some o => loadOp o.op | none => false

def headsOk (ops : Array Oper) (L : Array Bool) (hs : List Nat) : Bool := !(rdy ops L).isEmpty && (rdy ops L).all fun i => !isQuiet ops i && hs.contains i

def Plan.ok (ops : Array Oper) : Plan → Bool → Array Bool → List Nat → Bool
  | .nil, top, L, _ => top && (rdy ops L).isEmpty
  | .q i p, top, L, W => top && (rdy ops L).contains i && isQuiet ops i && p.ok ops true (L.setIfInBounds i true) (if isLoad ops i then i :: W else W)
  | .w i keep p, top, L, W => (!top || headsOk ops L [i]) && (rdy ops L).contains i && (W.all fun j => keep.contains j || anc ops ops.size j i) && p.ok ops true (L.setIfInBounds i true) (W.filter keep.contains)
  | .or p p', top, L, W => (!top || headsOk ops L (p.heads ++ p'.heads)) && p.ok ops false L W && p'.ok ops false L W

/-- What is read is written ahead of it, by an edge; each temporary is written once; edges lead back. -/
def flowOk (ops : Array Oper) : Bool := ((List.range ops.size).all fun i => (List.range ops.size).all fun j => match ops[i]?, ops[j]? with
  | some oi, some oj => match oj.dst with
    | some d => (i == j || oi.dst != some d) && (!(reads ops oi).contains d || (i != j && oi.after.toList.any fun e => Region.binds .any e && e.on == j))
    | none => true
  | _, _ => true) && ((List.range ops.size).all fun i => match ops[i]? with | some oi => oi.after.toList.all fun e => !Region.binds .any e || decide (e.on < i) | none => true)

def aWatch (P : Program) (ops : Array Oper) (st : St) : List (Nat × LV) → Prop
  | [] => True
  | (j, x) :: W => (match ops[j]? with | some o => aq P ops o st = some x | none => False) ∧ aWatch P ops st W

def aPlan (P : Program) (N : Nat) (ops : Array Oper) (K : St → Prop) : Plan → List (Nat × LV) → St → Prop
  | .nil, _, st => K st
  | .q i p, W, st => match ops[i]? with
    | some o => dOk N o.dst ∧ match aq P ops o st with
      | some x => aPlan P N ops K p (if loadOp o.op then (i, x) :: W else W) ⟨updO o.dst x st.t, st.s, st.v⟩
      | none => False
    | none => False
  | .w i keep p, W, st => match ops[i]? with
    | some o => aOper P N ops o st fun st' => aWatch P ops st' (W.filter fun y => keep.contains y.1) ∧ aPlan P N ops K p (W.filter fun y => keep.contains y.1) st'
    | none => False
  | .or p p', W, st => aPlan P N ops K p W st ∧ aPlan P N ops K p' W st

def on (L : Array Bool) (i : Nat) : Prop := L.getD i false = true
def closed (ops : Array Oper) (L : Array Bool) : Prop := ∀ i o, on L i → ops[i]? = some o → ∀ e ∈ o.after, Region.binds .any e = true → on L e.on

theorem mem_rdy {ops : Array Oper} {L : Array Bool} (hL : L.size = ops.size) {i : Nat} : i ∈ rdy ops L ↔ ¬ on L i ∧ ∃ o, ops[i]? = some o ∧ ∀ e ∈ o.after, Region.binds .any e = true → on L e.on := by
  unfold rdy
  rw [mem_ready]
  constructor
  · rintro ⟨h1, o, h2, h3⟩
    refine ⟨?_, o, h2, h3⟩
    have hlt : i < L.size := by rw [hL]; exact (Array.getElem?_eq_some_iff.1 h2).1
    unfold on
    simp only [Array.getD_eq_getD_getElem?, Array.getElem?_eq_getElem hlt, Option.getD_some] at h1 ⊢
    simp [h1]
  · rintro ⟨h1, o, h2, h3⟩
    refine ⟨?_, o, h2, h3⟩
    have hlt : i < L.size := by rw [hL]; exact (Array.getElem?_eq_some_iff.1 h2).1
    unfold on at h1
    simp only [Array.getD_eq_getD_getElem?, Array.getElem?_eq_getElem hlt, Option.getD_some] at h1 ⊢
    simpa using h1

theorem on_set {L : Array Bool} {i j : Nat} (hi : i < L.size) : on (L.setIfInBounds i true) j ↔ on L j ∨ j = i := by
  unfold on
  by_cases h : j = i
  · subst h; simp [hi]
  · simp only [h, or_false]
    rw [Array.getD_eq_getD_getElem?, Array.getElem?_setIfInBounds_ne (by omega), ← Array.getD_eq_getD_getElem?]

theorem closed_set {ops : Array Oper} {L : Array Bool} (hL : L.size = ops.size) {i : Nat} (h : closed ops L) (hi : i ∈ rdy ops L) : closed ops (L.setIfInBounds i true) := by
  obtain ⟨_, o, h2, h3⟩ := (mem_rdy hL).1 hi
  have hlt : i < L.size := by rw [hL]; exact (Array.getElem?_eq_some_iff.1 h2).1
  intro j oj hj hoj e he hb
  rw [on_set hlt] at hj ⊢
  rcases hj with hj | rfl
  · exact .inl (h j oj hj hoj e he hb)
  · rw [h2] at hoj; cases hoj; exact .inl (h3 e he hb)

theorem anc_on {ops : Array Oper} {L : Array Bool} (hc : closed ops L) : ∀ (k j i : Nat), anc ops k j i = true → (∀ o, ops[i]? = some o → ∀ e ∈ o.after, Region.binds .any e = true → on L e.on) → on L j := by
  intro k
  induction k with
  | zero => intro j i h; simp [anc] at h
  | succ k ih =>
    intro j i h h1
    simp only [anc] at h
    split at h
    · rename_i o ho
      simp only [List.any_eq_true, Bool.and_eq_true, Bool.or_eq_true, beq_iff_eq] at h
      obtain ⟨e, he, hb, h2⟩ := h
      have he' : e ∈ o.after := Array.mem_toList_iff.1 he
      have hon := h1 o ho e he' hb
      rcases h2 with h2 | h2
      · rw [← h2]; exact hon
      · exact ih j e.on h2 fun o' ho' e' he' hb' => hc e.on o' hon ho' e' he' hb'
    · cases h

structure Body (P : Program) (N : Nat) (ops : Array Oper) (K : St → Prop) (B : Nat) (C0 : Ctx) (p : Plan) (Labs : Array Bool) (W : List (Nat × LV)) (st : St) (C : Ctx) (L : Array Bool) (a : Act) : Prop where
  ok : p.ok ops true Labs (W.map (·.1)) = true
  plan : aPlan P N ops K p W st
  le : C0.le C
  Ok : Hb.Ok C st.s
  τ : C.τ = st.v
  size : a.tmps.size = N
  marks : RelD C B a.defers
  labs : Labs.size = ops.size
  l : L.size = ops.size
  sub : ∀ i, on L i → on Labs i
  cl : closed ops L
  cabs : closed ops Labs
  lag : ∀ j o, on Labs j → ¬ on L j → ops[j]? = some o → quietOp o.op = true ∧ dOk N o.dst ∧ ∃ x, aq P ops o st = some x ∧ (∀ d, o.dst = some d → st.t d = x) ∧ (loadOp o.op = true → (j, x) ∈ W)
  rel : ∀ d, RelV C (st.t d) (a.tmps.getD d undef) ∨ ∃ j o, on Labs j ∧ ¬ on L j ∧ ops[j]? = some o ∧ o.dst = some d

theorem flow_reads {ops : Array Oper} (h : flowOk ops = true) {i j : Nat} {oi oj : Oper} (hi : ops[i]? = some oi) (hj : ops[j]? = some oj) {d : Tmp} (hd : oj.dst = some d) (hr : d ∈ reads ops oi) : ∃ e ∈ oi.after, Region.binds .any e = true ∧ e.on = j := by
  unfold flowOk at h
  simp only [Bool.and_eq_true, List.all_eq_true, List.mem_range] at h
  have h1 := h.1 i (Array.getElem?_eq_some_iff.1 hi).1 j (Array.getElem?_eq_some_iff.1 hj).1
  simp only [hi, hj, hd, Bool.and_eq_true, Bool.or_eq_true, Bool.not_eq_true', List.contains_eq_mem, decide_eq_false_iff_not, List.any_eq_true, beq_iff_eq] at h1
  rcases h1.2 with h2 | h2
  · exact absurd hr h2
  · obtain ⟨_, e, he, hb, hon⟩ := h2
    exact ⟨e, Array.mem_toList_iff.1 he, hb, hon⟩

theorem flow_dst {ops : Array Oper} (h : flowOk ops = true) {i j : Nat} {oi oj : Oper} (hi : ops[i]? = some oi) (hj : ops[j]? = some oj) {d : Tmp} (hd : oj.dst = some d) (hd' : oi.dst = some d) : i = j := by
  unfold flowOk at h
  simp only [Bool.and_eq_true, List.all_eq_true, List.mem_range] at h
  have h1 := h.1 i (Array.getElem?_eq_some_iff.1 hi).1 j (Array.getElem?_eq_some_iff.1 hj).1
  simp only [hi, hj, hd, Bool.and_eq_true, Bool.or_eq_true, beq_iff_eq] at h1
  rcases h1.1 with h2 | h2
  · exact h2
  · simp [hd'] at h2

theorem flow_back {ops : Array Oper} (h : flowOk ops = true) {i : Nat} {oi : Oper} (hi : ops[i]? = some oi) {e : Edge} (he : e ∈ oi.after) (hb : Region.binds .any e = true) : e.on < i := by
  unfold flowOk at h
  simp only [Bool.and_eq_true, List.all_eq_true, List.mem_range] at h
  have h1 := h.2 i (Array.getElem?_eq_some_iff.1 hi).1
  simp only [hi, List.all_eq_true, Bool.or_eq_true, Bool.not_eq_true', decide_eq_true_eq] at h1
  rcases h1 e (Array.mem_toList_iff.2 he) with h2 | h2
  · rw [hb] at h2; cases h2
  · exact h2

theorem updO_ne {d : Option Tmp} {x : LV} {t : Nat → LV} {i : Nat} (h : d ≠ some i) : updO d x t i = t i := by
  cases d with
  | none => rfl
  | some d => simp only [updO, upd]; rw [if_neg (fun e => h (by rw [e]))]
theorem updO_eq {i : Tmp} {x : LV} {t : Nat → LV} : updO (some i) x t i = x := by simp [updO, upd]

/-- Quiet operations are reckoned ahead. -/
theorem Body.sat {P : Program} {N : Nat} {ops : Array Oper} {K : St → Prop} {B : Nat} {C0 C : Ctx} {L : Array Bool} {a : Act} (hf : flowOk ops = true) : ∀ (p : Plan) (Labs : Array Bool) (W : List (Nat × LV)) (st : St), Body P N ops K B C0 p Labs W st C L a →
    ∃ p' Labs' W' st', Body P N ops K B C0 p' Labs' W' st' C L a ∧ (∀ i q, p' ≠ .q i q) := by
  intro p
  induction p with
  | nil => intro Labs W st h; exact ⟨_, _, _, _, h, by intro i q e; cases e⟩
  | w i k p _ => intro Labs W st h; exact ⟨_, _, _, _, h, by intro i q e; cases e⟩
  | or p p' _ _ => intro Labs W st h; exact ⟨_, _, _, _, h, by intro i q e; cases e⟩
  | q i p ih =>
    intro Labs W st h
    have hok := h.ok
    simp only [Plan.ok, Bool.and_eq_true, Bool.true_and, List.contains_eq_mem, decide_eq_true_eq] at hok
    obtain ⟨⟨hr, hq⟩, hp⟩ := hok
    obtain ⟨hn, o, ho, hedges⟩ := (mem_rdy h.labs).1 hr
    have hlt : i < Labs.size := by rw [h.labs]; exact (Array.getElem?_eq_some_iff.1 ho).1
    have hpl := h.plan
    simp only [aPlan, ho] at hpl
    obtain ⟨hd, hpl⟩ := hpl
    cases hx : aq P ops o st with
    | none => simp [hx] at hpl
    | some x =>
      simp only [hx] at hpl
      have hql : quietOp o.op = true := by simpa [isQuiet, ho] using hq
      have hnr : ∀ j oj, on Labs j → ops[j]? = some oj → ∀ d, o.dst = some d → d ∉ reads ops oj := by
        intro j oj hj hoj d hd' hr'
        obtain ⟨e, he, hb, hon⟩ := flow_reads hf hoj ho hd' hr'
        exact hn (hon ▸ h.cabs j oj hj hoj e he hb)
      have hself : ∀ d, o.dst = some d → d ∉ reads ops o := by
        intro d hd' hr'
        obtain ⟨e, he, hb, hon⟩ := flow_reads hf ho ho hd' hr'
        have := flow_back hf ho he hb
        omega
      refine ih (Labs.setIfInBounds i true) (if loadOp o.op then (i, x) :: W else W) ⟨updO o.dst x st.t, st.s, st.v⟩ ⟨?_, hpl, h.le, h.Ok, h.τ, h.size, h.marks, by simpa using h.labs, h.l, ?_, h.cl, closed_set h.labs h.cabs hr, ?_, ?_⟩
      · have : isLoad ops i = loadOp o.op := by simp [isLoad, ho]
        rw [this] at hp
        cases hl : loadOp o.op <;> simpa [hl] using hp
      · intro j hj; rw [on_set hlt]; exact .inl (h.sub j hj)
      · intro j oj hj hj' hoj
        rw [on_set hlt] at hj
        by_cases hij : j = i
        · subst hij
          rw [ho] at hoj; cases hoj
          refine ⟨hql, hd, x, ?_, ?_, ?_⟩
          · rw [← hx]
            exact (aq_congr fun d hd' => (updO_ne (fun e => hself d e hd')).symm).symm
          · intro d hd'; simp only [hd']; exact updO_eq
          · intro hl; simp [hl]
        · have hj2 := hj.resolve_right hij
          obtain ⟨k1, k2, y, k3, k4, k5⟩ := h.lag j oj hj2 hj' hoj
          refine ⟨k1, k2, y, ?_, ?_, ?_⟩
          · rw [← k3]
            exact (aq_congr fun d hd' => (updO_ne (fun e => hnr j oj hj2 hoj d e hd')).symm).symm
          · intro d hd'
            simp only
            rw [updO_ne (fun e => hij (flow_dst hf ho hoj hd' e).symm)]
            exact k4 d hd'
          · intro hl
            have := k5 hl
            split
            · exact List.mem_cons_of_mem _ this
            · exact this
      · intro d
        by_cases hd' : o.dst = some d
        · exact .inr ⟨i, o, (on_set hlt).2 (.inr rfl), fun hL => hn (h.sub i hL), ho, hd'⟩
        · rcases h.rel d with h1 | ⟨j, oj, j1, j2, j3, j4⟩
          · left; simp only; rw [updO_ne hd']; exact h1
          · exact .inr ⟨j, oj, (on_set hlt).2 (.inl j1), j2, j3, j4⟩
end Go.Hb
