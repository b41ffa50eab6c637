import Derived.Test.YtbglkjbmnlkgmaaHbM
import Derived.RangeFuncCalls
import Derived.RangeFuncLeaves
import Derived.OrdersIn
namespace Go.Hb
open Go Go.RowKit

def mark (b : Nat) : Deferred := { target := .collected b, args := #[] }
def RelD (C : Ctx) (B : Nat) (ds : List Deferred) : Prop := B ≤ C.w.heap.size ∧ ∃ bs : List Nat, ds = bs.map mark ∧ bs.Nodup ∧ ∀ b ∈ bs, (B ≤ b ∧ C.kept b) ∧ C.w.heap[b]? = some (.deferred (some []))

theorem RelD.mono {C C' : Ctx} (h : C.le C') {B : Nat} {ds : List Deferred} (r : RelD C B ds) : RelD C' B ds := by
  obtain ⟨h0, bs, h1, h2, h3⟩ := r
  exact ⟨Nat.le_trans h0 h.size, bs, h1, h2, fun b hb => ⟨⟨(h3 b hb).1.1, h.kept b (h3 b hb).1.2⟩, (h.keep b (h3 b hb).1.2).trans (h3 b hb).2⟩⟩

/-- The frame at hand: its temporaries (N of them) and its marks. -/
def RelS (C : Ctx) (N B : Nat) (t : Nat → LV) (a : Act) : Prop := a.tmps.size = N ∧ RelT C t a.tmps ∧ RelD C B a.defers

theorem RelS.mono {C C' : Ctx} (h : C.le C') {N B : Nat} {t : Nat → LV} {a : Act} (r : RelS C N B t a) : RelS C' N B t a := ⟨r.1, RelT.mono h r.2.1, RelD.mono h r.2.2⟩

def dOk (N : Nat) (d : Option Tmp) : Prop := match d with | some d => d < N | none => True

theorem RelS.put {C : Ctx} {N B : Nat} {t : Nat → LV} {a : Act} (r : RelS C N B t a) {d : Option Tmp} (hd : dOk N d) {x : LV} {v : Value} (hx : RelV C x v) : RelS C N B (updO d x t) (a.put d v) := by
  cases d with
  | none => exact r
  | some d =>
    obtain ⟨h1, h2, h3⟩ := r
    exact ⟨by simp [Act.put, h1], h2.upd (show d < a.tmps.size from by rw [h1]; exact hd) hx, h3⟩

def Lift (C0 : Ctx) (N B : Nat) (Q : Exit → St → Prop) : Exit → Act → World → Prop :=
  fun e a w => ∃ C st, C.w = w ∧ C0.le C ∧ Ok C st.s ∧ C.τ = st.v ∧ RelS C N B st.t a ∧ Q e st

theorem Lift.from {C0 C1 : Ctx} (h : C0.le C1) {N B : Nat} {Q : Exit → St → Prop} {e : Exit} {a : Act} {w : World} (r : Lift C1 N B Q e a w) : Lift C0 N B Q e a w := by
  obtain ⟨C, st, h1, h2, h3⟩ := r
  exact ⟨C, st, h1, h.trans h2, h3⟩

def Fr (C : Ctx) (r : Option Nat) : Fence := { Fence.wide with round := r.map C.ρ }

theorem Fr.eq {C C' : Ctx} (h : C.le C') {r : Option Nat} (hr : ∀ l, r = some l → l < C.n) : Fr C' r = Fr C r := by
  cases r with
  | none => rfl
  | some l => simp [Fr, h.ρ l (hr l rfl)]

def rOk (n : Nat) (r : Option Nat) : Prop := ∀ l, r = some l → l < n
theorem rOk.mono {C C' : Ctx} (h : C.le C') {r : Option Nat} (hr : rOk C.n r) : rOk C'.n r := fun l hl => Nat.lt_of_lt_of_le (hr l hl) h.n

def aW (P : Program) (r : Option Nat) (N : Nat) (c : Code) (Q : Exit → St → Prop) (st : St) : Prop :=
  ∀ B C a, Ok C st.s → C.τ = st.v → RelS C N B st.t a → rOk C.n r → c.wpIn (Fr C r) 0 P (Lift C N B Q) a C.w

def aThen (next : St → Prop) (Q : Exit → St → Prop) : Exit → St → Prop
  | .normal, st => next st
  | e, st => Q e st
def aInBlock (id : Nat) (Q : Exit → St → Prop) : Exit → St → Prop
  | .exit id', st => if id' = id then Q .normal st else Q (.exit id') st
  | e, st => Q e st

section
variable {P : Program} {r : Option Nat} {N : Nat} {Q Q' : Exit → St → Prop} {st : St}

theorem aW_mono {c : Code} (h : aW P r N c Q st) (hq : ∀ e st, Q e st → Q' e st) : aW P r N c Q' st := fun B C a h1 h2 h3 h4 =>
  wpIn_mono (h B C a h1 h2 h3 h4) fun e a w ⟨C', st', k1, k2, k3, k4, k5, k6⟩ => ⟨C', st', k1, k2, k3, k4, k5, hq _ _ k6⟩

theorem aW_skip (h : Q .normal st) : aW P r N .skip Q st := fun B C a h1 h2 h3 _ => wpIn_skip ⟨C, st, rfl, .refl C, h1, h2, h3, h⟩
theorem aW_ret (h : Q .ret st) : aW P r N .ret Q st := fun B C a h1 h2 h3 _ => wpIn_ret ⟨C, st, rfl, .refl C, h1, h2, h3, h⟩
theorem aW_exit {id : Nat} (h : Q (.exit id) st) : aW P r N (.exit id) Q st := fun B C a h1 h2 h3 _ => wpIn_exit ⟨C, st, rfl, .refl C, h1, h2, h3, h⟩
theorem aW_seq {x y : Code} (h : aW P r N x (aThen (aW P r N y Q) Q) st) : aW P r N (.seq x y) Q st := fun B C a h1 h2 h3 h4 =>
  wpIn_seq (wpIn_mono (h B C a h1 h2 h3 h4) fun e a' w ⟨C', st', k1, k2, k3, k4, k5, k6⟩ => by
    subst k1
    cases e with
    | normal =>
      have := k6 B C' a' k3 k4 k5 (rOk.mono k2 h4)
      rw [Fr.eq k2 h4] at this
      exact wpIn_mono this fun e a w hl => Lift.from k2 hl
    | _ => exact ⟨C', st', rfl, k2, k3, k4, k5, k6⟩)
theorem aW_block {id : Nat} {c : Code} (h : aW P r N c (aInBlock id Q) st) : aW P r N (.block id c) Q st := fun B C a h1 h2 h3 h4 =>
  wpIn_block (wpIn_mono (h B C a h1 h2 h3 h4) fun e a' w ⟨C', st', k1, k2, k3, k4, k5, k6⟩ => by
    subst k1
    cases e with
    | exit id' =>
      by_cases e : id' = id
      · simp only [Exit.inBlock, e, if_true]
        simp only [aInBlock, e, if_true] at k6
        exact ⟨C', st', rfl, k2, k3, k4, k5, k6⟩
      · simp only [Exit.inBlock, e, if_false]
        simp only [aInBlock, e, if_false] at k6
        exact ⟨C', st', rfl, k2, k3, k4, k5, k6⟩
    | _ => exact ⟨C', st', rfl, k2, k3, k4, k5, k6⟩)

def aIf (c : LV) (x y : Prop) : Prop := match c with | .bool b => if b = true then x else y | _ => False

theorem aW_cond {c : Operand} {x y : Code} (h : aIf (aev st.t c) (aW P r N x Q st) (aW P r N y Q st)) : aW P r N (.cond c x y) Q st := fun B C a h1 h2 h3 h4 => by
  have hr := aev_rel h3.2.1 c
  cases hc : aev st.t c <;> simp only [hc, aIf] at h
  rename_i b
  rw [hc] at hr; simp only [RelV] at hr
  refine wpIn_cond hr ?_
  cases b
  · exact h B C a h1 h2 h3 h4
  · exact h B C a h1 h2 h3 h4

theorem exists_least {p : Nat → Prop} (h : ∃ n, p n) : ∃ n, p n ∧ ∀ m, p m → n ≤ m := by
  obtain ⟨n, hn⟩ := h
  induction n using Nat.strongRecOn with
  | _ n ih =>
    by_cases hex : ∃ m, m < n ∧ p m
    · obtain ⟨m, hm, hpm⟩ := hex
      exact ih m hm hpm
    · exact ⟨n, hn, fun m hm => by
        rcases Nat.lt_or_ge m n with h' | h'
        · exact absurd ⟨m, h', hm⟩ hex
        · exact h'⟩

open Classical in
theorem aW_loop {c : Code} (I : St → Prop) (μ : St → Nat) (h0 : I st) (round : ∀ st, I st → aW P r N c (aThen (fun st' => I st' ∧ μ st' < μ st) Q) st) : aW P r N (.loop c) Q st := fun B C a h1 h2 h3 h4 => by
  let R : Nat → Act → World → Prop := fun n a w => ∃ C' st', C'.w = w ∧ C.le C' ∧ Ok C' st'.s ∧ C'.τ = st'.v ∧ RelS C' N B st'.t a ∧ I st' ∧ μ st' = n
  refine wpIn_loop (fun a w => ∃ n, R n a w) (fun a w => if h : ∃ n, R n a w then Classical.choose (exists_least h) else 0) ⟨μ st, C, st, rfl, .refl C, h1, h2, h3, h0, rfl⟩ ?_
  intro a w hI
  obtain ⟨C', st', k1, k2, k3, k4, k5, k6, k7⟩ := (Classical.choose_spec (exists_least hI)).1
  subst k1
  have := round st' k6 B C' a k3 k4 k5 (rOk.mono k2 h4)
  rw [Fr.eq k2 h4] at this
  refine wpIn_mono this fun e a' w' ⟨C2, st2, m1, m2, m3, m4, m5, m6⟩ => ?_
  subst m1
  cases e with
  | normal =>
    have hR : R (μ st2) a' C2.w := ⟨C2, st2, rfl, k2.trans m2, m3, m4, m5, m6.1, rfl⟩
    refine ⟨⟨_, hR⟩, ?_⟩
    have hex : ∃ n, R n a' C2.w := ⟨_, hR⟩
    show (if h : ∃ n, R n a' C2.w then Classical.choose (exists_least h) else 0) < (if h : ∃ n, R n a C'.w then Classical.choose (exists_least h) else 0)
    rw [dif_pos hex, dif_pos hI]
    have := (Classical.choose_spec (exists_least hex)).2 _ hR
    have h9 := m6.2
    omega
  | _ => exact ⟨C2, st2, rfl, k2.trans m2, m3, m4, m5, m6⟩
end
end Go.Hb
