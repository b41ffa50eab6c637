/-
  A layer for reasoning about the program's calls, and contracts of its functions (L4). CONDITIONS: none; each theorem bears its own.
-/
import Derived.Test.YtdnbmcnckojglaaGreatL3
import Derived.RangeFuncCalls
import Derived.RangeFuncLeaves
import Derived.OrdersIn
set_option linter.unusedVariables false
set_option linter.unusedSimpArgs false
section
namespace Go.Hb
open Go Go.RowKit

def mark (b : Nat) : Deferred := { target := .collected b, args := #[] }
def RelD (C : Ctx) (B : Nat) (ds : List Deferred) : Prop := B ≤ C.w.heap.size ∧ ∃ bs : List Nat, ds = bs.map mark ∧ bs.Nodup ∧ ∀ b ∈ bs, (B ≤ b ∧ C.kept b) ∧ C.w.heap[b]? = some (.deferred (some []))

theorem RelD.mono {C C' : Ctx} (h : C.le C') {B : Nat} {ds : List Deferred} (r : RelD C B ds) : RelD C' B ds := by
 obtain ⟨h0, bs, h1, h2, h3⟩ := r
 exact ⟨Nat.le_trans h0 h.size, bs, h1, h2, fun b hb => ⟨⟨(h3 b hb).1.1, h.kept b (h3 b hb).1.2⟩, (h.keep b (h3 b hb).1.2).trans (h3 b hb).2⟩⟩

def RelS (C : Ctx) (N B : Nat) (t : Nat → LV) (a : Act) : Prop := a.tmps.size = N ∧ RelT C t a.tmps ∧ RelD C B a.defers

theorem RelS.mono {C C' : Ctx} (h : C.le C') {N B : Nat} {t : Nat → LV} {a : Act} (r : RelS C N B t a) : RelS C' N B t a := ⟨r.1, RelT.mono h r.2.1, RelD.mono h r.2.2⟩

def dOk (N : Nat) (d : Option Tmp) : Prop := match d with | some d => d < N | none => True

theorem RelS.put {C : Ctx} {N B : Nat} {t : Nat → LV} {a : Act} (r : RelS C N B t a) {d : Option Tmp} (hd : dOk N d) {x : LV} {v : Value} (hx : RelV C x v) : RelS C N B (updO d x t) (a.put d v) := by
 cases d with
 | none => exact r
 | some d =>
  obtain ⟨h1, h2, h3⟩ := r
  exact ⟨by simp [Act.put, h1], h2.upd (show d < a.tmps.size from by rw [h1]; exact hd) hx, h3⟩

def Lift (C0 : Ctx) (N B : Nat) (Q : Exit → St → Prop) : Exit → Act → World → Prop :=
 fun e a w => ∃ C st, C.w = w ∧ C0.le C ∧ Ok C st.s ∧ C.τ = st.v ∧ RelS C N B st.t a ∧ Q e st

theorem Lift.from {C0 C1 : Ctx} (h : C0.le C1) {N B : Nat} {Q : Exit → St → Prop} {e : Exit} {a : Act} {w : World} (r : Lift C1 N B Q e a w) : Lift C0 N B Q e a w := by
 obtain ⟨C, st, h1, h2, h3⟩ := r
 exact ⟨C, st, h1, h.trans h2, h3⟩

def Fr (C : Ctx) (r : Option Nat) : Fence := { Fence.wide with round := r.map C.ρ }

theorem Fr.eq {C C' : Ctx} (h : C.le C') {r : Option Nat} (hr : ∀ l, r = some l → l < C.n) : Fr C' r = Fr C r := by
 cases r with
 | none => rfl
 | some l => simp [Fr, h.ρ l (hr l rfl)]

def rOk (n : Nat) (r : Option Nat) : Prop := ∀ l, r = some l → l < n
theorem rOk.mono {C C' : Ctx} (h : C.le C') {r : Option Nat} (hr : rOk C.n r) : rOk C'.n r := fun l hl => Nat.lt_of_lt_of_le (hr l hl) h.n

def aW (P : Program) (r : Option Nat) (N : Nat) (c : Code) (Q : Exit → St → Prop) (st : St) : Prop :=
 ∀ B C a, Ok C st.s → C.τ = st.v → RelS C N B st.t a → rOk C.n r → c.wpIn (Fr C r) 0 P (Lift C N B Q) a C.w

def aThen (next : St → Prop) (Q : Exit → St → Prop) : Exit → St → Prop
 | .normal, st => next st
 | e, st => Q e st
def aInBlock (id : Nat) (Q : Exit → St → Prop) : Exit → St → Prop
 | .exit id', st => if id' = id then Q .normal st else Q (.exit id') st
 | e, st => Q e st

section
variable {P : Program} {r : Option Nat} {N : Nat} {Q Q' : Exit → St → Prop} {st : St}

theorem aW_mono {c : Code} (h : aW P r N c Q st) (hq : ∀ e st, Q e st → Q' e st) : aW P r N c Q' st := fun B C a h1 h2 h3 h4 =>
 wpIn_mono (h B C a h1 h2 h3 h4) fun e a w ⟨C', st', k1, k2, k3, k4, k5, k6⟩ => ⟨C', st', k1, k2, k3, k4, k5, hq _ _ k6⟩

theorem aW_skip (h : Q .normal st) : aW P r N .skip Q st := fun B C a h1 h2 h3 _ => wpIn_skip ⟨C, st, rfl, .refl C, h1, h2, h3, h⟩
theorem aW_ret (h : Q .ret st) : aW P r N .ret Q st := fun B C a h1 h2 h3 _ => wpIn_ret ⟨C, st, rfl, .refl C, h1, h2, h3, h⟩
theorem aW_exit {id : Nat} (h : Q (.exit id) st) : aW P r N (.exit id) Q st := fun B C a h1 h2 h3 _ => wpIn_exit ⟨C, st, rfl, .refl C, h1, h2, h3, h⟩
theorem aW_seq {x y : Code} (h : aW P r N x (aThen (aW P r N y Q) Q) st) : aW P r N (.seq x y) Q st := fun B C a h1 h2 h3 h4 =>
 wpIn_seq (wpIn_mono (h B C a h1 h2 h3 h4) fun e a' w ⟨C', st', k1, k2, k3, k4, k5, k6⟩ => by
  subst k1
  cases e with
  | normal =>
   have := k6 B C' a' k3 k4 k5 (rOk.mono k2 h4)
   rw [Fr.eq k2 h4] at this
   exact wpIn_mono this fun e a w hl => Lift.from k2 hl
  | _ => exact ⟨C', st', rfl, k2, k3, k4, k5, k6⟩)
theorem aW_block {id : Nat} {c : Code} (h : aW P r N c (aInBlock id Q) st) : aW P r N (.block id c) Q st := fun B C a h1 h2 h3 h4 =>
 wpIn_block (wpIn_mono (h B C a h1 h2 h3 h4) fun e a' w ⟨C', st', k1, k2, k3, k4, k5, k6⟩ => by
  subst k1
  cases e with
  | exit id' =>
   by_cases e : id' = id
   ·simp only [Exit.inBlock, e, if_true]
    simp only [aInBlock, e, if_true] at k6
    exact ⟨C', st', rfl, k2, k3, k4, k5, k6⟩
   ·simp only [Exit.inBlock, e, if_false]
    simp only [aInBlock, e, if_false] at k6
    exact ⟨C', st', rfl, k2, k3, k4, k5, k6⟩
  | _ => exact ⟨C', st', rfl, k2, k3, k4, k5, k6⟩)

def aIf (c : LV) (x y : Prop) : Prop := match c with | .bool b => if b = true then x else y | _ => False

theorem aW_cond {c : Operand} {x y : Code} (h : aIf (aev st.t c) (aW P r N x Q st) (aW P r N y Q st)) : aW P r N (.cond c x y) Q st := fun B C a h1 h2 h3 h4 => by
 have hr := aev_rel h3.2.1 c
 cases hc : aev st.t c <;> simp only [hc, aIf] at h
 rename_i b
 rw [hc] at hr; simp only [RelV] at hr
 refine wpIn_cond hr ?_
 cases b
 ·exact h B C a h1 h2 h3 h4
 ·exact h B C a h1 h2 h3 h4

theorem exists_least {p : Nat → Prop} (h : ∃ n, p n) : ∃ n, p n ∧ ∀ m, p m → n ≤ m := by
 obtain ⟨n, hn⟩ := h
 induction n using Nat.strongRecOn with
 | _ n ih =>
  by_cases hex : ∃ m, m < n ∧ p m
  ·obtain ⟨m, hm, hpm⟩ := hex
   exact ih m hm hpm
  ·exact ⟨n, hn, fun m hm => by
    rcases Nat.lt_or_ge m n with h' | h'
    ·exact absurd ⟨m, h', hm⟩ hex
    ·exact h'⟩

open Classical in
theorem aW_loop {c : Code} (I : St → Prop) (μ : St → Nat) (h0 : I st) (round : ∀ st, I st → aW P r N c (aThen (fun st' => I st' ∧ μ st' < μ st) Q) st) : aW P r N (.loop c) Q st := fun B C a h1 h2 h3 h4 => by
 let R : Nat → Act → World → Prop := fun n a w => ∃ C' st', C'.w = w ∧ C.le C' ∧ Ok C' st'.s ∧ C'.τ = st'.v ∧ RelS C' N B st'.t a ∧ I st' ∧ μ st' = n
 refine wpIn_loop (fun a w => ∃ n, R n a w) (fun a w => if h : ∃ n, R n a w then Classical.choose (exists_least h) else 0) ⟨μ st, C, st, rfl, .refl C, h1, h2, h3, h0, rfl⟩ ?_
 intro a w hI
 obtain ⟨C', st', k1, k2, k3, k4, k5, k6, k7⟩ := (Classical.choose_spec (exists_least hI)).1
 subst k1
 have := round st' k6 B C' a k3 k4 k5 (rOk.mono k2 h4)
 rw [Fr.eq k2 h4] at this
 refine wpIn_mono this fun e a' w' ⟨C2, st2, m1, m2, m3, m4, m5, m6⟩ => ?_
 subst m1
 cases e with
 | normal =>
  have hR : R (μ st2) a' C2.w := ⟨C2, st2, rfl, k2.trans m2, m3, m4, m5, m6.1, rfl⟩
  refine ⟨⟨_, hR⟩, ?_⟩
  have hex : ∃ n, R n a' C2.w := ⟨_, hR⟩
  show (if h : ∃ n, R n a' C2.w then Classical.choose (exists_least h) else 0) < (if h : ∃ n, R n a C'.w then Classical.choose (exists_least h) else 0)
  rw [dif_pos hex, dif_pos hI]
  have := (Classical.choose_spec (exists_least hex)).2 _ hR
  have h9 := m6.2
  omega
 | _ => exact ⟨C2, st2, rfl, k2.trans m2, m3, m4, m5, m6⟩
end
end Go.Hb
end

section
namespace Go.Hb
open Go Go.RowKit

def fnOk (P : Program) (f : FuncId) : Bool := match P.funcs[f]? with
 | some fn => fn.body.isSome && !(fn.name == "runtime.NumGoroutine")
 | none => false

def aCalls (P : Program) (f : FuncId) (args : List LV) (s : List AObj) (v : List Nat) (R : LV → List AObj → List Nat → Prop) : Prop :=
 fnOk P f = true ∧ ∀ (C : Ctx) (vs : Array Value), Ok C s → C.τ = v → RelVs C args vs.toList →
  Calls P f vs C.w fun e w' => ∃ C' x u s' v', C'.w = w' ∧ e = .returned u ∧ C.le C' ∧ Ok C' s' ∧ C'.τ = v' ∧ RelV C' x u ∧ R x s' v'

theorem aCalls_mono {P : Program} {f : FuncId} {args : List LV} {s : List AObj} {v : List Nat} {R R' : LV → List AObj → List Nat → Prop} (h : aCalls P f args s v R) (hr : ∀ x s v, R x s v → R' x s v) : aCalls P f args s v R' :=
 ⟨h.1, fun C vs h1 h2 h3 => (h.2 C vs h1 h2 h3).mono fun e w' ⟨C', x, u, s', v', k1, k2, k3, k4, k5, k6, k7⟩ => ⟨C', x, u, s', v', k1, k2, k3, k4, k5, k6, hr _ _ _ k7⟩⟩

theorem run_callFunc {P : Program} {f : FuncId} (h : fnOk P f = true) (args : Array Value) (w : World) : (callFunc f args).run P w = .ok (.enter f args) w := by
 unfold fnOk at h
 cases hf : P.funcs[f]? with
 | none => simp [hf] at h
 | some fn =>
  simp only [hf, Bool.and_eq_true, Bool.not_eq_true'] at h
  obtain ⟨h1, h2⟩ := h
  have h3 : fn.body.isNone = false := by cases hb : fn.body <;> simp_all
  unfold callFunc
  simp only [Sem.run_bind, run_program, Result.andThen_ok, hf, h2, Bool.false_eq_true, if_false, h3]
  rfl

def aRound (P : Program) (l : Nat) (args : List LV) (s : List AObj) (v : List Nat) (R : LV → List AObj → List Nat → Prop) : Prop :=
 ∀ (C : Ctx) (vs : Array Value), Ok C s → C.τ = v → RelVs C args vs.toList → l < C.n ∧
  ∃ fn tmps assign body, (Instr.yield (C.ρ l) vs).run P C.w = .ok (.round (C.ρ l) fn tmps assign body) C.w ∧
  ∀ F : Fence, F = Fr C none → RoundIn F 0 P (C.ρ l) fn tmps assign body C.w fun e w' => ∃ C' x u s' v', C'.w = w' ∧ e = .returned u ∧ C.le C' ∧ Ok C' s' ∧ C'.τ = v' ∧ RelV C' x u ∧ R x s' v'

theorem RelVs.mk {C : Ctx} {t : Nat → LV} {a : Act} (r : RelT C t a.tmps) (as : Array Operand) : RelVs C (as.toList.map (aev t)) (as.map a.eval).toList := by
 simpa using relVs_map r as.toList

def aGuard (ops : Array Oper) (t : Nat → LV) (o : Oper) : Option Bool := match o.guard with
 | none => some true
 | some (j, want) => match (ops[j]?).bind (·.dst) with
  | some d => (match t d with
   | .bool b => some (b == want)
   | .tup _ => some false
   | _ => none)
  | none => some false

theorem aGuard_sound {C : Ctx} {N B : Nat} {ops : Array Oper} {t : Nat → LV} {a : Act} {o : Oper} {b : Bool} (r : RelS C N B t a) (h : aGuard ops t o = some b) : Region.wanted o (yielded ops a.tmps) = b := by
 unfold aGuard at h
 unfold Region.wanted
 split at h
 ·rename_i hg; simp at h; subst h; simp [hg]
 ·rename_i j want hg
  simp only [hg]
  split at h
  ·rename_i d hd
   have hr := r.2.1 d
   unfold yielded
   rw [hd]
   simp only [Option.bind_some]
   split at h
   ·rename_i b' hb
    rw [hb] at hr; simp only [RelV] at hr
    simp at h; subst h
    rw [Array.getD_eq_getD_getElem?] at hr
    cases hx : a.tmps[d]? with
    | none => rw [hx] at hr; simp [undef] at hr
    | some x => rw [hx] at hr; simp at hr; subst hr; simp
   ·rename_i vs hb
    rw [hb] at hr; simp only [RelV] at hr
    obtain ⟨us, hr, _⟩ := hr
    simp at h; subst h
    rw [Array.getD_eq_getD_getElem?] at hr
    cases hx : a.tmps[d]? with
    | none => simp
    | some x => rw [hx] at hr; simp at hr; subst hr; simp
   ·cases h
  ·rename_i hd
   simp at h; subst h
   simp [yielded, hd]

inductive Callee' where
 | func (f : FuncId) (args : List LV)
 | yld (l : Nat) (args : List LV)
 | bad
 | no

def callee (o : Op) (t : Nat → LV) : Callee' := match o with
 | .call c => match c.callee with
  | .value f => match aev t f with
   | .fn (.func g) fa ca => .func g (fa ++ c.args.toList.map (aev t) ++ ca)
   | .yld l => .yld l (c.args.toList.map (aev t))
   | _ => .bad
  | .builtin _ => .no
  | _ => .bad
 | .defer _ | .go _ => .bad
 | _ => .no

def aOper (P : Program) (N : Nat) (ops : Array Oper) (o : Oper) (st : St) (K : St → Prop) (own : Bool := false) : Prop :=
 dOk N o.dst ∧ match aGuard ops st.t o with
 | some false => K { st with t := updO o.dst (.tup []) st.t }
 | some true => (match callee o.op st.t with
  | .func f args => aCalls P f args st.s st.v fun x s v => K ⟨updO o.dst x st.t, s, v⟩
  | .yld l args => aRound P l args st.s st.v fun x s v => K ⟨updO o.dst x st.t, s, v⟩
  | .bad => False
  | .no => match aopO P own o.op st with
   | some (x, s, v) => K ⟨updO o.dst x st.t, s, v⟩
   | none => False)
 | none => False
end Go.Hb
end

section
namespace Go.Hb
open Go Go.RowKit

theorem callsIn_Fr {P : Program} {C : Ctx} {r : Option Nat} {f : FuncId} {args : Array Value} {w : World} {R : Ending → World → Prop} {n : Nat} (h : Calls P f args w R) : CallsIn (Fr C r) n P f args w R := by
 have h1 : CallsIn Fence.wide n P f args w R := callsIn_wide.2 h
 cases r with
 | none => exact h1
 | some l => exact CallsIn.inRound (C.ρ l) h1

def Lift1 (C0 : Ctx) (N B : Nat) (K : St → Prop) : Act → World → Prop :=
 fun a w => ∃ C st, C.w = w ∧ C0.le C ∧ Ok C st.s ∧ C.τ = st.v ∧ RelS C N B st.t a ∧ K st

theorem resolve_value {P : Program} {ρ : Operand → Value} {c : Call} {f : Operand} (hc : c.callee = .value f) {fn : Fn} {fs cs : Array Value} (hv : ρ f = .func fn fs cs) (ty : TypeId) (w : World) :
  (do let d ← resolve ρ c ty; invoke d.target d.args : Sem Next).run P w = (invoke (.fn fn cs) (fs ++ c.args.map ρ)).run P w := by
 simp [resolve, hc, hv, Deferred.ofValue]

theorem aOper_sound {P : Program} {r : Option Nat} {N : Nat} {ops : Array Oper} {i : Nat} {o : Oper} {st : St} {K : St → Prop} {own : Bool} (Q' : Exit → Act → World → Prop) (ho : ops[i]? = some o) (h : aOper P N ops o st K own) :
  ∀ B C a, Ok C st.s → C.τ = st.v → RelS C N B st.t a → rOk C.n r → wpOpIn (Fr C r) 0 P ops Q' i (Lift1 C N B K) a C.w := by
 intro B C a h1 h2 h3 h4
 obtain ⟨hd, h⟩ := h
 unfold wpOpIn
 simp only [ho]
 cases hg : aGuard ops st.t o with
 | none => simp [hg] at h
 | some b =>
  have hw := aGuard_sound h3 hg
  rw [hg] at h
  cases b with
  | false =>
   simp only at h
   rw [if_neg (by simp [hw])]
   refine ⟨fun _ _ => trivial, C, ⟨updO o.dst (.tup []) st.t, st.s, st.v⟩, rfl, .refl C, h1, h2, ?_, h⟩
   exact h3.put (x := .tup []) (v := undef) hd (by simp only [RelV]; exact ⟨#[], rfl, by simp [RelVs]⟩)
  | true =>
   simp only at h
   rw [if_pos hw]
   refine ⟨fun _ _ => trivial, ?_⟩
   have hnd : ∀ c, o.op ≠ .defer c := by
    intro c e
    simp [callee, e] at h
   rw [Oper.semAt_eq _ _ _ hnd]
   cases hc : callee o.op st.t with
   | bad => simp [hc] at h
   | no =>
    simp only [hc] at h
    cases ha : aopO P own o.op st with
    | none => simp [ha] at h
    | some y =>
     obtain ⟨x, s, v⟩ := y
     simp only [ha] at h
     obtain ⟨C', u, k1, k2, k3, k4, k5⟩ := aopO_sound (o := o) h1 h2 h3.2.1 ha
     rcases k5 with k5 | ⟨k5, rfl⟩
     ·rw [k5]; exact ⟨C', _, rfl, k1, k2, k3, (h3.mono k1).put hd k4, h⟩
     ·rw [k5]; exact ⟨C', _, rfl, k1, k2, k3, (h3.mono k1).put hd k4, h⟩
   | func f args =>
    simp only [hc] at h
    unfold callee at hc
    split at hc
    ·rename_i c hop
     split at hc
     ·rename_i g hcal
      split at hc
      ·rename_i g' fa ca hg'
       simp only [Callee'.func.injEq] at hc
       obtain ⟨rfl, rfl⟩ := hc
       have hr := aev_rel h3.2.1 g
       rw [hg'] at hr; simp only [RelV] at hr
       obtain ⟨fs, cs, hv, hr1, hr2⟩ := hr
       have hex : (execOp a.eval o).run P C.w = .ok (.enter g' (fs ++ c.args.map a.eval ++ cs)) C.w := by
        unfold execOp
        simp only [hop]
        rw [resolve_value hcal hv]
        simp only [invoke]
        exact run_callFunc h.1 _ _
       rw [hex, Oper.uponIn_enter]
       refine ⟨fun hh => by cases r <;> simp [Fr, Fence.wide] at hh, callsIn_Fr ?_⟩
       have hargs : RelVs C (fa ++ c.args.toList.map (aev st.t) ++ ca) (fs ++ c.args.map a.eval ++ cs).toList := by
        simp only [Array.toList_append]
        exact (hr1.app (RelVs.mk h3.2.1 c.args)).app hr2
       refine (h.2 C _ h1 h2 hargs).mono ?_
       rintro e w' ⟨C', x, u, s', v', rfl, rfl, k3, k4, k5, k6, k7⟩
       exact ⟨C', _, rfl, k3, k4, k5, (h3.mono k3).put hd k6, k7⟩
      ·cases hc
      ·cases hc
     ·cases hc
     ·cases hc
    ·cases hc
    ·cases hc
    ·cases hc
   | yld l args =>
    simp only [hc] at h
    unfold callee at hc
    split at hc
    ·rename_i c hop
     split at hc
     ·rename_i g hcal
      split at hc
      ·cases hc
      ·rename_i l' hg'
       simp only [Callee'.yld.injEq] at hc
       obtain ⟨rfl, rfl⟩ := hc
       have hr := aev_rel h3.2.1 g
       rw [hg'] at hr; simp only [RelV] at hr
       obtain ⟨hl, hv⟩ := hr
       have hargs := RelVs.mk h3.2.1 c.args
       obtain ⟨_, fn, tmps, assign, body, hy, hround⟩ := h C _ h1 h2 hargs
       have hex : (execOp a.eval o).run P C.w = .ok (.round (C.ρ l') fn tmps assign body) C.w := by
        unfold execOp
        simp only [hop]
        rw [resolve_value hcal hv]
        simp only [invoke]
        rw [show (#[] : Array Value) ++ c.args.map a.eval = c.args.map a.eval from by simp]
        exact hy
       rw [hex, Oper.uponIn_round]
       refine ⟨fun hh => by cases r <;> simp [Fr, Fence.wide] at hh, ?_⟩
       refine RoundIn.mono (F := Fr C r) (show RoundIn (Fr C r) 0 P (C.ρ l') fn tmps assign body C.w _ from by
        have h9 := hround (Fr C none) rfl
        cases r with
        | none => exact h9
        | some l0 => exact h9) ?_
       rintro e w' ⟨C', x, u, s', v', rfl, rfl, k3, k4, k5, k6, k7⟩
       exact ⟨C', _, rfl, k3, k4, k5, (h3.mono k3).put hd k6, k7⟩
      ·cases hc
     ·cases hc
     ·cases hc
    ·cases hc
    ·cases hc
    ·cases hc

def aL (P : Program) (N : Nat) (ops : Array Oper) (own : Bool) : List Oper → (St → Prop) → St → Prop
 | [], K, st => K st
 | o :: rest, K, st => aOper P N ops o st (aL P N ops own rest K) own

theorem aL_sound {P : Program} {r : Option Nat} {N : Nat} {ops : Array Oper} {own : Bool} {Q : Exit → St → Prop} (B : Nat) (C0 : Ctx) (h4 : rOk C0.n r) : ∀ (l : List Oper) (k : Nat) (C : Ctx) (a : Act) (st : St), C0.le C → ops.toList.drop k = l → Ok C st.s → C.τ = st.v → RelS C N B st.t a → aL P N ops own l (Q .normal) st →
   wpOpsIn (Fr C0 r) 0 P ops (Lift C0 N B Q) (List.range' k l.length) a C.w := by
 intro l
 induction l with
 | nil => intro k C a st hle _ h1 h2 h3 h; exact ⟨C, st, rfl, hle, h1, h2, h3, h⟩
 | cons o rest ih =>
  intro k C a st hle hl h1 h2 h3 h
  have ho : ops[k]? = some o := by
   have : ops.toList[k]? = some o := by
    have := congrArg (fun l => l[0]?) hl
    simpa using this
   simpa using this
  have hrest : ops.toList.drop (k + 1) = rest := by
   have := congrArg List.tail hl
   simpa using this
  rw [show List.range' k (o :: rest).length = k :: List.range' (k + 1) rest.length from by simp [List.range'_succ], wpOpsIn_cons]
  have hs := aOper_sound (r := r) (Lift C0 N B Q) ho h B C a h1 h2 h3 (rOk.mono hle h4)
  rw [Fr.eq hle h4] at hs
  refine wpOpIn_mono ?_ hs
  rintro a' w' ⟨C', st', rfl, k2, k3, k4, k5, k6⟩
  exact ih (k + 1) C' a' st' (hle.trans k2) hrest k3 k4 k5 k6

theorem aW_region {P : Program} {r : Option Nat} {N id : Nat} {ops : Array Oper} {own : Bool} {Q : Exit → St → Prop} {st : St} (h : aL P N ops own ops.toList (Q .normal) st) : aW P r N (.region id ops false) Q st := by
 intro B C a h1 h2 h3 h4
 refine wpIn_region ?_
 have := aL_sound B C h4 ops.toList 0 C a st (.refl C) (by simp) h1 h2 h3 h
 rw [List.range_eq_range']
 simpa using this

def initT (args : List LV) : Nat → LV := fun i => args.getD i (.tup [])

def aResult (P : Program) (st : St) : ResultVar → Option LV
 | .tmp i => some (st.t i)
 | .cell a T => aLoad P T (st.t a) st.s

def packed : List LV → LV
 | [x] => x
 | xs => .tup xs

def aRes (P : Program) (fn : Func) (st : St) : Option LV := (fn.results.toList.mapM (aResult P st)).map packed

def bodyQ (P : Program) (fn : Func) (R : LV → List AObj → List Nat → Prop) : Exit → St → Prop
 | .normal, st | .ret, st => ∃ x, aRes P fn st = some x ∧ R x st.s st.v
 | _, _ => False
end Go.Hb
end

section
namespace Go.Hb
open Go Go.RowKit

def Ctx.shut (C : Ctx) (b : Nat) : Ctx := { C with w := { C.w with heap := C.w.heap.setIfInBounds b (.deferred none) }, kept := fun k => C.kept k ∧ k ≠ b }

theorem heap_shut (C : Ctx) (b k : Nat) (h : k ≠ b) : (C.shut b).w.heap[k]? = C.w.heap[k]? := by
 simp only [Ctx.shut]
 rw [Array.getElem?_setIfInBounds_ne (by omega)]

theorem cell_shut {C : Ctx} {b : Nat} (hb : C.w.heap[b]? = some (.deferred (some []))) (a : Addr) : (C.shut b).w.cell? a = C.w.cell? a := by
 by_cases h : a.block = b
 ·subst h
  have hlt := (Array.getElem?_eq_some_iff.1 hb).1
  have h1 : (C.shut a.block).w.heap[a.block]? = some (.deferred none) := by simp [Ctx.shut, hlt]
  simp [World.cell?, hb, h1]
 ·simp only [World.cell?, heap_shut C b _ h]

theorem wle_shut {C : Ctx} {b : Nat} (hb : C.w.heap[b]? = some (.deferred (some []))) : C.wle (C.shut b) :=
 ⟨fun _ => Nat.le_refl _, fun _ _ _ => cell_shut hb _, fun _ _ => rfl, Nat.le_refl _, fun _ e h => ⟨e, h, Nat.le_refl _, fun _ => rfl⟩, fun b' => by
  by_cases e : b' = b
  ·subst e; unfold bs; rw [hb]; exact Nat.zero_le _
  ·exact Nat.le_of_eq (bs_same (heap_shut C b b' e)).symm⟩

theorem RelT.wmono {C C' : Ctx} (h : C.wle C') {t : Nat → LV} {tmps : Array Value} (r : RelT C t tmps) : RelT C' t tmps := fun i => RelV.wmono h _ _ (r i)

theorem RelOpt.wmono {C C' : Ctx} (h : C.wle C') : ∀ {x : Option LV} {v : Option Value}, RelOpt C x v → RelOpt C' x v
 | none, none, _ => trivial
 | some _, some _, r => RelV.wmono h _ _ r

theorem RelO.wmono {C C' : Ctx} (h : C.wle C') {o : AObj} {b : Nat} (hb : C'.w.heap[b]? = C.w.heap[b]?) (r : RelO C o b) : RelO C' o b := by
 cases o with
 | cells cs =>
  obtain ⟨vs, T, us, ws, h1, h2, h3, h4⟩ := r
  exact ⟨vs, T, us, ws, hb.trans h1, h2, RelVs.wmono h _ _ h3, h4⟩
 | loop r' =>
  obtain ⟨L, h1, h2, h3, h4, h5, h6, h7, h8⟩ := r
  exact ⟨L, hb.trans h1, h2, h3, h4, h5, h6, h7, RelT.wmono h h8⟩
 | map f =>
  obtain ⟨es, cl, h1, h2, h3⟩ := r
  exact ⟨es, cl, hb.trans h1, h2, fun k => RelOpt.wmono h (h3 k)⟩

theorem Ok.shut {C : Ctx} {s : List AObj} (h : Ok C s) {b : Nat} (hk : C.kept b) (hb : C.w.heap[b]? = some (.deferred (some []))) : Ok (C.shut b) s where
 n := h.n
 obj i o ho := by
  have hin : i < C.n := by rw [h.n]; exact (List.getElem?_eq_some_iff.1 ho).1
  exact RelO.wmono (wle_shut hb) (heap_shut C b _ (fun e => (h.own i hin).1 (e ▸ hk))) (h.obj i o ho)
 inj := h.inj
 own i hi := by obtain ⟨a, b', c⟩ := h.own i hi; exact ⟨fun hh => a hh.1, b', by simpa [Ctx.shut] using c⟩
 tip g hg := by
  obtain ⟨a, b', vs, T, c, d⟩ := h.tip g hg
  exact ⟨fun hh => a hh.1, b', vs, T, (heap_shut C b (C.θ g).b (fun e => a (by rw [e]; exact hk))).trans c, d⟩
 tipinj := h.tipinj
 tipown := h.tipown
 kept b' hb' := by have := h.kept b' hb'.1; simpa [Ctx.shut] using this
 lim b' hb' := h.lim b' (by simpa [Ctx.shut] using hb')

theorem run_take {P : Program} {w : World} {b : Nat} (hb : w.heap[b]? = some (.deferred (some []))) : (Instr.takeDeferred b).run P w = .ok [] { w with heap := w.heap.setIfInBounds b (.deferred none) } := by
 simp [Instr.takeDeferred, getObj, setObj, Sem.run, hb, Sem.run_bind]

def vResult (tmps : Array Value) : ResultVar → Sem Value
 | .tmp t => pure (tmps.getD t undef)
 | .cell a t => do loadVar t (← asAddr (tmps.getD a undef))

theorem results_eq (fn : Func) (tmps : Array Value) : results fn tmps = (do
  let vs ← fn.results.mapM (vResult tmps)
  pure (if h : vs.size = 1 then vs[0] else .tuple vs)) := by
 unfold results
 congr 2

theorem RelRes {P : Program} {C : Ctx} {st : St} {a : Act} (hok : Ok C st.s) (hT : RelT C st.t a.tmps) : ∀ (rs : List ResultVar) (xs : List LV),
  rs.mapM (aResult P st) = some xs → ∃ vs, RelVs C xs vs ∧ (rs.mapM (vResult a.tmps)).run P C.w = .ok vs C.w := by
 intro rs
 induction rs with
 | nil => intro xs h; simp at h; subst h; exact ⟨[], rfl, rfl⟩
 | cons r rs ih =>
  intro xs h
  simp only [List.mapM_cons, Option.bind_eq_bind, Option.bind_eq_some_iff, Option.pure_def, Option.some.injEq] at h
  obtain ⟨x, hx, ys, hys, rfl⟩ := h
  obtain ⟨vs, h1, h2⟩ := ih ys hys
  cases r with
  | tmp t =>
   simp only [aResult, Option.some.injEq] at hx; subst hx
   refine ⟨_ :: vs, ⟨_, vs, rfl, hT t, h1⟩, ?_⟩
   simp only [List.mapM_cons, Sem.run_bind, vResult, Sem.run_pure, Result.andThen_ok]
   rw [h2]; rfl
  | cell p T =>
   simp only [aResult] at hx
   have hp := hT p
   obtain ⟨u, k1, k2, ad, k3⟩ := aLoad_quiet (P := P) hok hp hx
   rw [k3] at k2
   have k4 : (loadVar T ad).run P C.w = .ok u C.w := k2
   refine ⟨u :: vs, ⟨u, vs, rfl, k1, h1⟩, ?_⟩
   have k5 : (vResult a.tmps (.cell p T)).run P C.w = .ok u C.w := by
    simp only [vResult, Sem.run_bind, k3, asAddr, Sem.run_pure, Result.andThen_ok, k4]
   simp only [List.mapM_cons, Sem.run_bind]
   rw [k5]; simp only [Result.andThen_ok]; rw [h2]; rfl

theorem aCalls_of_body {P : Program} {f : FuncId} {fn : Func} {c : Code} {args : List LV} {s : List AObj} {v : List Nat} {R : LV → List AObj → List Nat → Prop} (hf : P.funcs[f]? = some fn) (hb : fn.body = some c) (hn : (fn.name == "runtime.NumGoroutine") = false) (hlen : args.length ≤ fn.ntmps)
  (h : aW P none fn.ntmps c (bodyQ P fn R) ⟨initT args, s, v⟩) : aCalls P f args s v R := by
 refine ⟨by simp [fnOk, hf, hb, hn], fun C vs h1 h2 h3 => ?_⟩
 have hvl : args.length = vs.size := by simpa using h3.length
 have hS : RelS C fn.ntmps C.w.heap.size (initT args) { tmps := vs ++ Array.replicate (fn.ntmps - vs.size) undef, defers := [] } := by
  refine ⟨by simp; omega, fun i => ?_, Nat.le_refl _, [], rfl, by simp, by simp⟩
  unfold initT
  by_cases hi : i < args.length
  ·have hx : args[i]? = some args[i] := by simp [hi]
   obtain ⟨u, k1, k2⟩ := h3.get hx
   have hu : (vs ++ Array.replicate (fn.ntmps - vs.size) undef)[i]? = some u := by
    rw [Array.getElem?_append_left (by omega)]; simpa using k1
   rw [Array.getD_eq_getD_getElem?, hu]
   simpa [List.getD, hx] using k2
  ·have : args.getD i (.tup []) = .tup [] := by simp [List.getD, List.getElem?_eq_none (Nat.le_of_not_lt hi)]
   rw [this]
   have hu : (vs ++ Array.replicate (fn.ntmps - vs.size) undef).getD i undef = undef := by
    rw [Array.getD_eq_getD_getElem?, Array.getElem?_append_right (by omega)]
    by_cases h9 : i - vs.size < fn.ntmps - vs.size
    ·simp [h9]
    ·simp [h9]
   rw [hu]; simp only [RelV]; exact ⟨#[], rfl, by simp [RelVs]⟩
 have hw := h C.w.heap.size C _ h1 h2 hS (fun l hl => by cases hl)
 have hfr : Fr C none = Fence.wide := rfl
 rw [hfr] at hw
 refine (callsIn_wide (n := 0)).1 (callsIn_of_wp_marks hf hb trivial (wpIn_mono hw ?_) rfl)
 rintro e a w ⟨C', st, rfl, k2, k3, k4, ⟨k5, k6, _, bs, k7, k8, k9⟩, k10⟩
 -- shutting the marks, one by one
 have key : ∀ (bs : List Nat) (C' : Ctx), (∀ b, C.kept b → C'.kept b ∧ C'.w.heap[b]? = C.w.heap[b]?) → C'.w.os = C.w.os → C'.w.tape = C.w.tape → C'.w.output = C.w.output → C.w.heap.size ≤ C'.w.heap.size → C.w.drawn ≤ C'.w.drawn → C.wle C' → Ok C' st.s → C'.τ = st.v → RelT C' st.t a.tmps → bs.Nodup →
   (∀ b ∈ bs, (C.w.heap.size ≤ b ∧ C'.kept b) ∧ C'.w.heap[b]? = some (.deferred (some []))) → (∃ x, aRes P fn st = some x ∧ R x st.s st.v) →
   LeavesInM Fence.wide 0 P fn a.tmps (fun e w' => ∃ C' x u s' v', C'.w = w' ∧ e = .returned u ∧ C.le C' ∧ Ok C' s' ∧ C'.τ = v' ∧ RelV C' x u ∧ R x s' v') (bs.map mark) .returning C'.w := by
  intro bs
  induction bs with
  | nil =>
   intro C' q1 q2 q3 q4 q5 qd q6 q7 q8 q9 _ _ ⟨x, r1, r2⟩
   simp only [List.map_nil, LeavesInM, LeavesIn]
   unfold aRes at r1
   simp only [Option.map_eq_some_iff] at r1
   obtain ⟨xs, hm, rfl⟩ := r1
   obtain ⟨us, u1, u2⟩ := RelRes (P := P) q7 q9 _ _ hm
   have hul := u1.length
   have hrun : (results fn a.tmps).run P C'.w = .ok (if h : us.toArray.size = 1 then us.toArray[0] else .tuple us.toArray) C'.w := by
    rw [results_eq, Array.mapM_eq_mapM_toList]
    simp only [Sem.run_bind, Sem.run_map, u2, Result.andThen_ok, Sem.run_pure]
   have hle : C.le C' := ⟨q2, q3, q4, q5, fun b hb => (q1 b hb).1, fun b hb => (q1 b hb).2, q6.lim, q6.cell, q6.ρ, q6.n, q6.τ, q6.room, qd⟩
   refine ⟨_, hrun, C', packed xs, _, st.s, st.v, rfl, rfl, hle, q7, q8, ?_, r2⟩
   match xs, u1, hul with
   | [y], u1, _ =>
    obtain ⟨w0, r', e1, e2, e3⟩ := u1
    simp only [RelVs] at e3
    subst e3; subst e1
    simpa [packed] using e2
   | [], u1, hul =>
    have : us = [] := List.eq_nil_of_length_eq_zero (by simpa using hul.symm)
    subst this
    simp only [packed, RelV]; exact ⟨#[], by simp, by simp [RelVs]⟩
   | y :: z :: l, u1, hul =>
    have hn1 : ¬ us.toArray.size = 1 := by simp at hul ⊢; omega
    rw [dif_neg hn1]
    simp only [packed, RelV]
    exact ⟨_, rfl, by simpa using u1⟩
  | cons b bs ih =>
   intro C' q1 q2 q3 q4 q5 qd q6 q7 q8 q9 q10 q11 q12
   have hb' := q11 b (by simp)
   simp only [List.map_cons, LeavesInM]
   refine ⟨by simp, .inl ⟨b, _, rfl, run_take hb'.2, ?_⟩⟩
   have hsh := ih (C'.shut b) (fun k hk => ?_) q2 q3 q4 (by simpa [Ctx.shut] using q5) qd ?_ (q7.shut hb'.1.2 hb'.2) q8 (RelT.wmono (wle_shut hb'.2) q9) (by simp at q10; exact q10.2) (fun k hk => ?_) q12
   ·exact hsh
   ·have hne : k ≠ b := fun e => by
     have := h1.kept k hk
     omega
    exact ⟨⟨(q1 k hk).1, hne⟩, (heap_shut _ _ _ hne).trans (q1 k hk).2⟩
   ·have := wle_shut hb'.2
    exact ⟨q6.lim, fun b' o ho => (cell_shut hb'.2 _).trans (q6.cell b' o ho), q6.ρ, q6.n, q6.τ, fun k => Nat.le_trans (q6.room k) (this.room k)⟩
   ·have hne : k ≠ b := fun e => by subst e; simp at q10; exact q10.1 hk
    have := q11 k (by simp [hk])
    exact ⟨⟨this.1.1, this.1.2, hne⟩, (heap_shut _ _ _ hne).trans this.2⟩
 have main : (∃ x, aRes P fn st = some x ∧ R x st.s st.v) → LeavesInM Fence.wide 0 P fn a.tmps (fun e w' => ∃ C' x u s' v', C'.w = w' ∧ e = .returned u ∧ C.le C' ∧ Ok C' s' ∧ C'.τ = v' ∧ RelV C' x u ∧ R x s' v') a.defers .returning C'.w := fun hr => by
  rw [k7]
  exact key bs C' (fun b hb => ⟨k2.kept b hb, k2.keep b hb⟩) k2.os k2.tape k2.output k2.size k2.drawn k2.weak k3 k4 k6 k8 k9 hr
 cases e with
 | normal => exact main k10
 | ret => exact main k10
 | exit _ => exact k10.elim
 | goto _ => exact k10.elim
 | panic _ => exact k10.elim
 | outgrown => exact k10.elim
end Go.Hb
end

section
namespace Go.Hb
open Go Go.RowKit

def aC (P : Program) (r : Option Nat) (N : Nat) (own : Bool) : Code → (Exit → St → Prop) → St → Prop
 | .skip, Q, st => Q .normal st
 | .ret, Q, st => Q .ret st
 | .label _, Q, st => Q .normal st
 | .exit id, Q, st => Q (.exit id) st
 | .seq (.block id (.loop c)) y, Q, st => aW P r N (.block id (.loop c)) (aThen (aW P r N y Q) Q) st
 | .seq (.seq a (.block id (.loop c))) y, Q, st => aC P r N own a (aThen (aW P r N (.block id (.loop c)) (aThen (aW P r N y Q) Q)) Q) st
 | .seq x y, Q, st => aC P r N own x (aThen (aC P r N own y Q) Q) st
 | .cond c x y, Q, st => aIf (aev st.t c) (aC P r N own x Q st) (aC P r N own y Q st)
 | .block id x, Q, st => aC P r N own x (aInBlock id Q) st
 | .region _ ops false, Q, st => aL P N ops own ops.toList (Q .normal) st
 | c, Q, st => aW P r N c Q st

theorem aC_sound {P : Program} {r : Option Nat} {N : Nat} {own : Bool} : ∀ (c : Code) (Q : Exit → St → Prop) (st : St), aC P r N own c Q st → aW P r N c Q st := by
 intro c
 -- stronger: of every code and of what it begins with
 suffices H : (∀ (Q : Exit → St → Prop) (st : St), aC P r N own c Q st → aW P r N c Q st) ∧ (∀ a b, c = .seq a b → ∀ (Q : Exit → St → Prop) (st : St), aC P r N own a Q st → aW P r N a Q st) from H.1
 induction c with
 | skip => exact ⟨fun Q st h => aW_skip h, fun _ _ e => by cases e⟩
 | ret => exact ⟨fun Q st h => aW_ret h, fun _ _ e => by cases e⟩
 | exit id => exact ⟨fun Q st h => aW_exit h, fun _ _ e => by cases e⟩
 | seq x y ihx ihy =>
  refine ⟨fun Q st h => ?_, fun a b e => by cases e; exact ihx.1⟩
  have key : aC P r N own x (aThen (aC P r N own y Q) Q) st → aW P r N (.seq x y) Q st := fun h => by
   refine aW_seq (aW_mono (ihx.1 _ _ h) ?_)
   intro e st' h'
   cases e with
   | normal => exact ihy.1 _ _ h'
   | _ => exact h'
  cases x with
  | block id b =>
   cases b with
   | loop c => exact aW_seq h
   | _ => exact key h
  | seq a b =>
   cases b with
   | block id b' =>
    cases b' with
    | loop c =>
     have ha := ihx.2 a _ rfl
     refine aW_seq (aW_seq (aW_mono (ha _ _ h) ?_))
     intro e st' h'
     cases e with
     | normal => exact h'
     | _ => exact h'
    | _ => exact key h
   | _ => exact key h
  | _ => exact key h
 | cond c x y ihx ihy =>
  refine ⟨fun Q st h => ?_, fun _ _ e => by cases e⟩
  refine aW_cond ?_
  simp only [aC] at h
  cases hc : aev st.t c <;> simp only [hc, aIf] at h ⊢
  split at h
  ·rename_i hb; rw [if_pos hb]; exact ihx.1 _ _ h
  ·rename_i hb; rw [if_neg hb]; exact ihy.1 _ _ h
 | block id x ih => exact ⟨fun Q st h => aW_block (ih.1 _ _ h), fun _ _ e => by cases e⟩
 | region id ops d =>
  refine ⟨fun Q st h => ?_, fun _ _ e => by cases e⟩
  cases d with
  | false => exact aW_region h
  | true => exact h
 | loop => exact ⟨fun Q st h => h, fun _ _ e => by cases e⟩
 | rangeFunc => exact ⟨fun Q st h => h, fun _ _ e => by cases e⟩
 | scope => exact ⟨fun Q st h => h, fun _ _ e => by cases e⟩
 | label l => exact ⟨fun Q st h => fun B C a h1 h2 h3 _ => wpIn_label ⟨C, st, rfl, .refl C, h1, h2, h3, h⟩, fun _ _ e => by cases e⟩
 | goto => exact ⟨fun Q st h => h, fun _ _ e => by cases e⟩
 | refuse => exact ⟨fun Q st h => h, fun _ _ e => by cases e⟩

theorem aCalls_of {P : Program} {f : FuncId} {fn : Func} {c : Code} {args : List LV} {s : List AObj} {v : List Nat} {R : LV → List AObj → List Nat → Prop} (hf : P.funcs[f]? = some fn) (hb : fn.body = some c) (hn : (fn.name == "runtime.NumGoroutine") = false) (hlen : args.length ≤ fn.ntmps)
  (own : Bool := false) (h : aC P none fn.ntmps own c (bodyQ P fn R) ⟨initT args, s, v⟩) : aCalls P f args s v R := aCalls_of_body hf hb hn hlen (aC_sound _ _ _ h)

theorem upd_apply (d : Nat) (x : LV) (t : Nat → LV) (i : Nat) : upd d x t i = if i = d then x else t i := rfl
end Go.Hb
end

section
namespace Go.Hb
open Go Go.RowKit

def quietOp : Op → Bool
 | .move _ | .assign _ | .pick .. | .build .. | .buildSlice .. | .load .. | .nilCheck _ | .binOp .. | .unOp .. | .convert .. | .makeFunc .. | .slice .. | .fieldAddr .. | .field .. | .indexAddr .. | .index .. | .extract .. => true
 | .call c => match c.callee with
  | .builtin .len | .builtin .min | .builtin .max => true
  | _ => false
 | _ => false
def loadOp : Op → Bool
 | .load .. => true
 | _ => false

def aq (P : Program) (ops : Array Oper) (o : Oper) (st : St) : Option LV := match aGuard ops st.t o with
 | some false => some (.tup [])
 | some true => (aop P o.op st).map (·.1)
 | none => none

theorem aop_quiet {P : Program} {o : Op} {st : St} {x : LV} {s : List AObj} {v : List Nat} (hq : quietOp o = true) (h : aop P o st = some (x, s, v)) : s = st.s ∧ v = st.v := by
 unfold aop at h
 cases o <;> simp only [quietOp] at hq <;> simp only at h <;> (try (cases hq; done)) <;> (try (simp only [Option.map_eq_some_iff] at h; obtain ⟨y, _, h2⟩ := h; simp only [Prod.mk.injEq] at h2; exact ⟨h2.2.1.symm, h2.2.2.symm⟩)) <;> (try (simp only [Option.some.injEq, Prod.mk.injEq] at h; exact ⟨h.2.1.symm, h.2.2.symm⟩))
 ·split at h
  ·simp only [Option.some.injEq, Prod.mk.injEq] at h; exact ⟨h.2.1.symm, h.2.2.symm⟩
  ·cases h
 ·rename_i c
  obtain ⟨cal, args, ats⟩ := c
  cases cal <;> simp only at hq h <;> (try (cases hq; done))
  rename_i b
  unfold aBuiltin at h
  split at h
  ·simp only [Option.map_eq_some_iff] at h; obtain ⟨y, _, h2⟩ := h; simp only [Prod.mk.injEq] at h2; exact ⟨h2.2.1.symm, h2.2.2.symm⟩
  ·cases hq
  ·cases hq
  ·simp only [Option.map_eq_some_iff] at h; obtain ⟨y, _, h2⟩ := h; simp only [Prod.mk.injEq] at h2; exact ⟨h2.2.1.symm, h2.2.2.symm⟩
  ·simp only [Option.map_eq_some_iff] at h; obtain ⟨y, _, h2⟩ := h; simp only [Prod.mk.injEq] at h2; exact ⟨h2.2.1.symm, h2.2.2.symm⟩
  ·cases hq
  ·cases h

theorem aop_pure {P : Program} {o : Op} {t : Nat → LV} {s s' : List AObj} {v v' : List Nat} (hq : quietOp o = true) (hl : loadOp o = false) : (aop P o ⟨t, s, v⟩).map (·.1) = (aop P o ⟨t, s', v'⟩).map (·.1) := by
 unfold aop
 cases o <;> simp only [quietOp] at hq <;> simp only [loadOp] at hl <;> (try (cases hq; done)) <;> (try (cases hl; done)) <;> simp only [Option.map_map, Option.map_some] <;> (try rfl)
 ·split <;> rfl
 ·rename_i c
  obtain ⟨cal, args, ats⟩ := c
  cases cal <;> simp only at hq <;> (try (cases hq; done))
  rename_i b
  simp only
  unfold aBuiltin
  split <;> simp only [Option.map_map, Option.map_none] <;> (first | rfl | cases hq)

theorem map_congr' {l : List Operand} {t t' : Nat → LV} (h : ∀ x ∈ l, aev t x = aev t' x) : l.map (aev t) = l.map (aev t') := List.map_congr_left h

theorem aop_congr {P : Program} {o : Op} {t t' : Nat → LV} {s : List AObj} {v : List Nat} (h : ∀ x ∈ o.operands, aev t x = aev t' x) : aop P o ⟨t, s, v⟩ = aop P o ⟨t', s, v⟩ := by
 unfold aop
 cases o <;> simp only [Op.operands] at h <;> (try rfl)
 case move x => simp only [h x (by simp)]
 case assign x => simp only [h x (by simp)]
 case pick c a b => simp only [h c (by simp), h a (by simp), h b (by simp)]
 case box e x => simp only [h x (by simp)]
 case build ty parts =>
  have : (parts.toList.map fun p => (p.1, aev t p.2)) = parts.toList.map fun p => (p.1, aev t' p.2) := List.map_congr_left fun p hp => by
   rw [h p.2 (by simp only [List.mem_toArray, List.mem_map]; exact ⟨p, hp, rfl⟩)]
  simp only [this]
 case buildSlice ty len parts =>
  have : (parts.toList.map fun p => (p.1, aev t p.2)) = parts.toList.map fun p => (p.1, aev t' p.2) := List.map_congr_left fun p hp => by
   rw [h p.2 (by simp only [List.mem_toArray, List.mem_map]; exact ⟨p, hp, rfl⟩)]
  simp only [this]
 case load ty a => simp only [h a (by simp)]
 case store ty a x => simp only [h a (by simp), h x (by simp)]
 case nilCheck x => simp only [h x (by simp)]
 case binOp op ty x y ty' => simp only [h x (by simp), h y (by simp)]
 case unOp op ty x => simp only [h x (by simp)]
 case convert a b x => simp only [h x (by simp)]
 case makeFunc f a b =>
  have e1 := map_congr' fun x hx => h x (Array.mem_append.2 (.inl (Array.mem_toList_iff.1 hx)))
  have e2 := map_congr' fun x hx => h x (Array.mem_append.2 (.inr (Array.mem_toList_iff.1 hx)))
  simp only [e1, e2]
 case makeSlice ty l c => simp only [h l (by simp), h c (by simp)]
 case slice ty x lo hi mx =>
  have e1 : lo.map (aev t) = lo.map (aev t') := by cases lo with | none => rfl | some y => simp only [Option.map_some, h y (by simp)]
  have e2 : hi.map (aev t) = hi.map (aev t') := by cases hi with | none => rfl | some y => simp only [Option.map_some, h y (by simp)]
  have e3 : mx.map (aev t) = mx.map (aev t') := by cases mx with | none => rfl | some y => simp only [Option.map_some, h y (by simp)]
  simp only [h x (by simp), e1, e2, e3]
 case makeMap ty r => cases r <;> rfl
 case lookup ty x i ok => simp only [h x (by simp), h i (by simp)]
 case mapUpdate ty m k x => simp only [h m (by simp), h k (by simp), h x (by simp)]
 case insert ty m k x => simp only [h m (by simp), h k (by simp), h x (by simp)]
 case fieldAddr ty x f => simp only [h x (by simp)]
 case field ty x f => simp only [h x (by simp)]
 case indexAddr ty x i => simp only [h x (by simp), h i (by simp)]
 case index ty x i => simp only [h x (by simp), h i (by simp)]
 case extract x i => simp only [h x (by simp)]
 case call c =>
  have e : c.args.toList.map (aev t) = c.args.toList.map (aev t') := map_congr' fun x hx => h x (by
   simp only [Call.operands, Array.mem_append]; exact .inr (Array.mem_toList_iff.1 hx))
  simp only
  split
  ·simp only [e, aBuiltin]
  ·rfl

def reads (ops : Array Oper) (o : Oper) : List Tmp := o.op.operands.toList.filterMap (fun | .tmp d => some d | _ => none) ++ (match o.guard with | some (j, _) => (match (ops[j]?).bind (·.dst) with | some d => [d] | none => []) | none => [])

theorem aev_congr {t t' : Nat → LV} {x : Operand} (h : ∀ d, x = .tmp d → t d = t' d) : aev t x = aev t' x := by
 cases x with
 | tmp d => exact h d rfl
 | _ => rfl

theorem operands_congr {ops : Array Oper} {o : Oper} {t t' : Nat → LV} (h : ∀ d ∈ reads ops o, t d = t' d) : ∀ x ∈ o.op.operands, aev t x = aev t' x := by
 intro x hx
 refine aev_congr fun d e => h d ?_
 subst e
 exact List.mem_append_left _ (List.mem_filterMap.2 ⟨.tmp d, Array.mem_toList_iff.2 hx, rfl⟩)

theorem guard_congr {ops : Array Oper} {o : Oper} {t t' : Nat → LV} (h : ∀ d ∈ reads ops o, t d = t' d) : aGuard ops t o = aGuard ops t' o := by
 unfold aGuard
 cases hg : o.guard with
 | none => rfl
 | some p =>
  obtain ⟨j, want⟩ := p
  simp only
  cases hd : (ops[j]?).bind (·.dst) with
  | none => rfl
  | some d =>
   have := h d (List.mem_append_right _ (by simp [hg, hd]))
   simp only [this]

theorem aq_congr {P : Program} {ops : Array Oper} {o : Oper} {t t' : Nat → LV} {s : List AObj} {v : List Nat} (h : ∀ d ∈ reads ops o, t d = t' d) : aq P ops o ⟨t, s, v⟩ = aq P ops o ⟨t', s, v⟩ := by
 unfold aq
 simp only [guard_congr h, aop_congr (operands_congr h)]

theorem aq_pure {P : Program} {ops : Array Oper} {o : Oper} {t : Nat → LV} {s s' : List AObj} {v v' : List Nat} (hq : quietOp o.op = true) (hl : loadOp o.op = false) : aq P ops o ⟨t, s, v⟩ = aq P ops o ⟨t, s', v'⟩ := by
 unfold aq
 simp only [aop_pure (s := s) (s' := s') (v := v) (v' := v') hq hl]

theorem callee_congr {ops : Array Oper} {o : Oper} {t t' : Nat → LV} (h : ∀ d ∈ reads ops o, t d = t' d) : callee o.op t = callee o.op t' := by
 have h1 := operands_congr h
 unfold callee
 cases ho : o.op <;> (try rfl)
 rename_i c
 rw [ho] at h1
 simp only [Op.operands] at h1
 have e : c.args.toList.map (aev t) = c.args.toList.map (aev t') := map_congr' fun x hx => h1 x (by
   simp only [Call.operands, Array.mem_append]; exact .inr (Array.mem_toList_iff.1 hx))
 simp only
 cases hc : c.callee <;> simp only
 rename_i f
 have ef : aev t f = aev t' f := h1 f (by simp [Call.operands, hc])
 rw [ef, e]

theorem aopO_congr {P : Program} {own : Bool} {o : Op} {t t' : Nat → LV} {s : List AObj} {v : List Nat} (h : ∀ x ∈ o.operands, aev t x = aev t' x) : aopO P own o ⟨t, s, v⟩ = aopO P own o ⟨t', s, v⟩ := by
 unfold aopO
 split
 ·rename_i c
  have e : c.args.toList.map (aev t) = c.args.toList.map (aev t') := map_congr' fun x hx => h x (by
   simp only [Op.operands, Call.operands, Array.mem_append]; exact .inr (Array.mem_toList_iff.1 hx))
  simp only [e, aop_congr h]
 ·rename_i ty len parts
  have : (parts.toList.map fun p => (p.1, aev t p.2)) = parts.toList.map fun p => (p.1, aev t' p.2) := List.map_congr_left fun p hp => by
   rw [h p.2 (by simp only [Op.operands, List.mem_toArray, List.mem_map]; exact ⟨p, hp, rfl⟩)]
  simp only [this, aop_congr h]
 ·exact aop_congr h
theorem aopO_false (P : Program) (o : Op) (st : St) : aopO P false o st = aop P o st := by
 unfold aopO; rfl
end Go.Hb
end

section
namespace Go.Hb
open Go Go.RowKit

inductive Plan where
 | nil
 | q (i : Nat) (p : Plan)
 | w (i : Nat) (keep : List Nat) (p : Plan)
 | or (p p' : Plan)

def Plan.qs : List Nat → Plan → Plan
 | [], p => p
 | i :: l, p => .q i (Plan.qs l p)

def rdy (ops : Array Oper) (L : Array Bool) : List Nat := Region.ready .any ops L

def anc (ops : Array Oper) : Nat → Nat → Nat → Bool
 | 0, _, _ => false
 | k + 1, j, i => match ops[i]? with
  | some o => o.after.toList.any fun e => Region.binds .any e && (e.on == j || anc ops k j e.on)
  | none => false

def Plan.heads : Plan → List Nat
 | .w i _ _ => [i]
 | .or p p' => p.heads ++ p'.heads
 | _ => []

def noWar (ops : Array Oper) (i : Nat) : Bool := match ops[i]? with
 | some o => match o.dst with
  | some d => (List.range ops.size).all fun j => match ops[j]? with
   | some oj => !(reads ops oj).contains d || oj.after.toList.any fun e => Region.binds .any e && e.on == i
   | none => true
  | none => true
 | none => false
def isQuiet (ops : Array Oper) (i : Nat) : Bool := (match ops[i]? with | some o => quietOp o.op | none => false) && noWar ops i
def isLoad (ops : Array Oper) (i : Nat) : Bool := match ops[i]? with | some o => loadOp o.op | none => false

def headsOk (ops : Array Oper) (L : Array Bool) (hs : List Nat) : Bool := !(rdy ops L).isEmpty && (rdy ops L).all fun i => !isQuiet ops i && hs.contains i

def Plan.ok (ops : Array Oper) : Plan → Bool → Array Bool → List Nat → Bool
 | .nil, top, L, _ => top && (rdy ops L).isEmpty
 | .q i p, top, L, W => top && (rdy ops L).contains i && isQuiet ops i && p.ok ops true (L.setIfInBounds i true) (if isLoad ops i then i :: W else W)
 | .w i keep p, top, L, W => (!top || headsOk ops L [i]) && (rdy ops L).contains i && (W.all fun j => keep.contains j || anc ops ops.size j i) && p.ok ops true (L.setIfInBounds i true) (W.filter keep.contains)
 | .or p p', top, L, W => (!top || headsOk ops L (p.heads ++ p'.heads)) && p.ok ops false L W && p'.ok ops false L W

def flowOk (ops : Array Oper) : Bool := ((List.range ops.size).all fun i => (List.range ops.size).all fun j => match ops[i]?, ops[j]? with
 | some oi, some oj => match oj.dst with
  | some d => (i == j || oi.dst != some d) && (!(reads ops oi).contains d || (i != j && oi.after.toList.any fun e => Region.binds .any e && e.on == j) || (oj.after.toList.any fun e => Region.binds .any e && e.on == i))
  | none => true
 | _, _ => true) && ((List.range ops.size).all fun i => match ops[i]? with | some oi => oi.after.toList.all fun e => !Region.binds .any e || decide (e.on < i) | none => true)

def aWatch (P : Program) (ops : Array Oper) (st : St) : List (Nat × LV) → Prop
 | [] => True
 | (j, x) :: W => (match ops[j]? with | some o => aq P ops o st = some x | none => False) ∧ aWatch P ops st W

def aPlan (P : Program) (N : Nat) (ops : Array Oper) (own : Bool) (K : St → Prop) : Plan → List (Nat × LV) → St → Prop
 | .nil, _, st => K st
 | .q i p, W, st => match ops[i]? with
  | some o => dOk N o.dst ∧ match aq P ops o st with
   | some x => aPlan P N ops own K p (if loadOp o.op then (i, x) :: W else W) ⟨updO o.dst x st.t, st.s, st.v⟩
   | none => False
  | none => False
 | .w i keep p, W, st => match ops[i]? with
  | some o => aOper P N ops o st (fun st' => aWatch P ops st' (W.filter fun y => keep.contains y.1) ∧ aPlan P N ops own K p (W.filter fun y => keep.contains y.1) st') own
  | none => False
 | .or p p', W, st => aPlan P N ops own K p W st ∧ aPlan P N ops own K p' W st

def on (L : Array Bool) (i : Nat) : Prop := L.getD i false = true
def closed (ops : Array Oper) (L : Array Bool) : Prop := ∀ i o, on L i → ops[i]? = some o → ∀ e ∈ o.after, Region.binds .any e = true → on L e.on

theorem mem_rdy {ops : Array Oper} {L : Array Bool} (hL : L.size = ops.size) {i : Nat} : i ∈ rdy ops L ↔ ¬ on L i ∧ ∃ o, ops[i]? = some o ∧ ∀ e ∈ o.after, Region.binds .any e = true → on L e.on := by
 unfold rdy
 rw [mem_ready]
 constructor
 ·rintro ⟨h1, o, h2, h3⟩
  refine ⟨?_, o, h2, h3⟩
  have hlt : i < L.size := by rw [hL]; exact (Array.getElem?_eq_some_iff.1 h2).1
  unfold on
  simp only [Array.getD_eq_getD_getElem?, Array.getElem?_eq_getElem hlt, Option.getD_some] at h1 ⊢
  simp [h1]
 ·rintro ⟨h1, o, h2, h3⟩
  refine ⟨?_, o, h2, h3⟩
  have hlt : i < L.size := by rw [hL]; exact (Array.getElem?_eq_some_iff.1 h2).1
  unfold on at h1
  simp only [Array.getD_eq_getD_getElem?, Array.getElem?_eq_getElem hlt, Option.getD_some] at h1 ⊢
  simpa using h1

theorem on_set {L : Array Bool} {i j : Nat} (hi : i < L.size) : on (L.setIfInBounds i true) j ↔ on L j ∨ j = i := by
 unfold on
 by_cases h : j = i
 ·subst h; simp [hi]
 ·simp only [h, or_false]
  rw [Array.getD_eq_getD_getElem?, Array.getElem?_setIfInBounds_ne (by omega), ← Array.getD_eq_getD_getElem?]

theorem closed_set {ops : Array Oper} {L : Array Bool} (hL : L.size = ops.size) {i : Nat} (h : closed ops L) (hi : i ∈ rdy ops L) : closed ops (L.setIfInBounds i true) := by
 obtain ⟨_, o, h2, h3⟩ := (mem_rdy hL).1 hi
 have hlt : i < L.size := by rw [hL]; exact (Array.getElem?_eq_some_iff.1 h2).1
 intro j oj hj hoj e he hb
 rw [on_set hlt] at hj ⊢
 rcases hj with hj | rfl
 ·exact .inl (h j oj hj hoj e he hb)
 ·rw [h2] at hoj; cases hoj; exact .inl (h3 e he hb)

theorem anc_on {ops : Array Oper} {L : Array Bool} (hc : closed ops L) : ∀ (k j i : Nat), anc ops k j i = true → (∀ o, ops[i]? = some o → ∀ e ∈ o.after, Region.binds .any e = true → on L e.on) → on L j := by
 intro k
 induction k with
 | zero => intro j i h; simp [anc] at h
 | succ k ih =>
  intro j i h h1
  simp only [anc] at h
  split at h
  ·rename_i o ho
   simp only [List.any_eq_true, Bool.and_eq_true, Bool.or_eq_true, beq_iff_eq] at h
   obtain ⟨e, he, hb, h2⟩ := h
   have he' : e ∈ o.after := Array.mem_toList_iff.1 he
   have hon := h1 o ho e he' hb
   rcases h2 with h2 | h2
   ·rw [← h2]; exact hon
   ·exact ih j e.on h2 fun o' ho' e' he' hb' => hc e.on o' hon ho' e' he' hb'
  ·cases h

structure Body (P : Program) (N : Nat) (ops : Array Oper) (own : Bool) (K : St → Prop) (B : Nat) (C0 : Ctx) (p : Plan) (Labs : Array Bool) (W : List (Nat × LV)) (st : St) (C : Ctx) (L : Array Bool) (a : Act) : Prop where
 ok : p.ok ops true Labs (W.map (·.1)) = true
 plan : aPlan P N ops own K p W st
 le : C0.le C
 Ok : Hb.Ok C st.s
 τ : C.τ = st.v
 size : a.tmps.size = N
 marks : RelD C B a.defers
 labs : Labs.size = ops.size
 l : L.size = ops.size
 sub : ∀ i, on L i → on Labs i
 cl : closed ops L
 cabs : closed ops Labs
 lag : ∀ j o, on Labs j → ¬ on L j → ops[j]? = some o → isQuiet ops j = true ∧ dOk N o.dst ∧ ∃ x, aq P ops o st = some x ∧ (∀ d, o.dst = some d → st.t d = x) ∧ (loadOp o.op = true → (j, x) ∈ W)
 rel : ∀ d, RelV C (st.t d) (a.tmps.getD d undef) ∨ ∃ j o, on Labs j ∧ ¬ on L j ∧ ops[j]? = some o ∧ o.dst = some d

theorem flow_reads {ops : Array Oper} (h : flowOk ops = true) {i j : Nat} {oi oj : Oper} (hi : ops[i]? = some oi) (hj : ops[j]? = some oj) {d : Tmp} (hd : oj.dst = some d) (hr : d ∈ reads ops oi) : (∃ e ∈ oi.after, Region.binds .any e = true ∧ e.on = j) ∨ ∃ e ∈ oj.after, Region.binds .any e = true ∧ e.on = i := by
 unfold flowOk at h
 simp only [Bool.and_eq_true, List.all_eq_true, List.mem_range] at h
 have h1 := h.1 i (Array.getElem?_eq_some_iff.1 hi).1 j (Array.getElem?_eq_some_iff.1 hj).1
 simp only [hi, hj, hd, Bool.and_eq_true, Bool.or_eq_true, Bool.not_eq_true', List.contains_eq_mem, decide_eq_false_iff_not, List.any_eq_true, beq_iff_eq] at h1
 rcases h1.2 with (h2 | h2) | h2
 ·exact absurd hr h2
 ·obtain ⟨_, e, he, hb, hon⟩ := h2
  exact .inl ⟨e, Array.mem_toList_iff.1 he, hb, hon⟩
 ·obtain ⟨e, he, hb, hon⟩ := h2
  exact .inr ⟨e, Array.mem_toList_iff.1 he, hb, hon⟩

theorem quiet_op {ops : Array Oper} {j : Nat} {oj : Oper} (h : isQuiet ops j = true) (hj : ops[j]? = some oj) : quietOp oj.op = true := by
 unfold isQuiet at h
 simp only [hj, Bool.and_eq_true] at h
 exact h.1
theorem quiet_reads {ops : Array Oper} {i j : Nat} {oi oj : Oper} (h : isQuiet ops j = true) (hi : ops[i]? = some oi) (hj : ops[j]? = some oj) {d : Tmp} (hd : oj.dst = some d) (hr : d ∈ reads ops oi) : ∃ e ∈ oi.after, Region.binds .any e = true ∧ e.on = j := by
 unfold isQuiet noWar at h
 simp only [hj, hd, Bool.and_eq_true, List.all_eq_true, List.mem_range] at h
 have h1 := h.2 i (Array.getElem?_eq_some_iff.1 hi).1
 simp only [hi, Bool.or_eq_true, Bool.not_eq_true', List.contains_eq_mem, decide_eq_false_iff_not, List.any_eq_true, Bool.and_eq_true, beq_iff_eq] at h1
 rcases h1 with h2 | ⟨e, he, hb, hon⟩
 ·exact absurd hr h2
 ·exact ⟨e, Array.mem_toList_iff.1 he, hb, hon⟩

theorem flow_dst {ops : Array Oper} (h : flowOk ops = true) {i j : Nat} {oi oj : Oper} (hi : ops[i]? = some oi) (hj : ops[j]? = some oj) {d : Tmp} (hd : oj.dst = some d) (hd' : oi.dst = some d) : i = j := by
 unfold flowOk at h
 simp only [Bool.and_eq_true, List.all_eq_true, List.mem_range] at h
 have h1 := h.1 i (Array.getElem?_eq_some_iff.1 hi).1 j (Array.getElem?_eq_some_iff.1 hj).1
 simp only [hi, hj, hd, Bool.and_eq_true, Bool.or_eq_true, beq_iff_eq] at h1
 rcases h1.1 with h2 | h2
 ·exact h2
 ·simp [hd'] at h2

theorem flow_back {ops : Array Oper} (h : flowOk ops = true) {i : Nat} {oi : Oper} (hi : ops[i]? = some oi) {e : Edge} (he : e ∈ oi.after) (hb : Region.binds .any e = true) : e.on < i := by
 unfold flowOk at h
 simp only [Bool.and_eq_true, List.all_eq_true, List.mem_range] at h
 have h1 := h.2 i (Array.getElem?_eq_some_iff.1 hi).1
 simp only [hi, List.all_eq_true, Bool.or_eq_true, Bool.not_eq_true', decide_eq_true_eq] at h1
 rcases h1 e (Array.mem_toList_iff.2 he) with h2 | h2
 ·rw [hb] at h2; cases h2
 ·exact h2

theorem updO_ne {d : Option Tmp} {x : LV} {t : Nat → LV} {i : Nat} (h : d ≠ some i) : updO d x t i = t i := by
 cases d with
 | none => rfl
 | some d => simp only [updO, upd]; rw [if_neg (fun e => h (by rw [e]))]
theorem updO_eq {i : Tmp} {x : LV} {t : Nat → LV} : updO (some i) x t i = x := by simp [updO, upd]

theorem Body.sat {P : Program} {N : Nat} {ops : Array Oper} {own : Bool} {K : St → Prop} {B : Nat} {C0 C : Ctx} {L : Array Bool} {a : Act} (hf : flowOk ops = true) : ∀ (p : Plan) (Labs : Array Bool) (W : List (Nat × LV)) (st : St), Body P N ops own K B C0 p Labs W st C L a →
  ∃ p' Labs' W' st', Body P N ops own K B C0 p' Labs' W' st' C L a ∧ (∀ i q, p' ≠ .q i q) := by
 intro p
 induction p with
 | nil => intro Labs W st h; exact ⟨_, _, _, _, h, by intro i q e; cases e⟩
 | w i k p _ => intro Labs W st h; exact ⟨_, _, _, _, h, by intro i q e; cases e⟩
 | or p p' _ _ => intro Labs W st h; exact ⟨_, _, _, _, h, by intro i q e; cases e⟩
 | q i p ih =>
  intro Labs W st h
  have hok := h.ok
  simp only [Plan.ok, Bool.and_eq_true, Bool.true_and, List.contains_eq_mem, decide_eq_true_eq] at hok
  obtain ⟨⟨hr, hq⟩, hp⟩ := hok
  obtain ⟨hn, o, ho, hedges⟩ := (mem_rdy h.labs).1 hr
  have hlt : i < Labs.size := by rw [h.labs]; exact (Array.getElem?_eq_some_iff.1 ho).1
  have hpl := h.plan
  simp only [aPlan, ho] at hpl
  obtain ⟨hd, hpl⟩ := hpl
  cases hx : aq P ops o st with
  | none => simp [hx] at hpl
  | some x =>
   simp only [hx] at hpl
   have hql : isQuiet ops i = true := hq
   have hnr : ∀ j oj, on Labs j → ops[j]? = some oj → ∀ d, o.dst = some d → d ∉ reads ops oj := by
    intro j oj hj hoj d hd' hr'
    obtain ⟨e, he, hb, hon⟩ := quiet_reads hql hoj ho hd' hr'
    exact hn (hon ▸ h.cabs j oj hj hoj e he hb)
   have hself : ∀ d, o.dst = some d → d ∉ reads ops o := by
    intro d hd' hr'
    obtain ⟨e, he, hb, hon⟩ := quiet_reads hql ho ho hd' hr'
    have := flow_back hf ho he hb
    omega
   refine ih (Labs.setIfInBounds i true) (if loadOp o.op then (i, x) :: W else W) ⟨updO o.dst x st.t, st.s, st.v⟩ ⟨?_, hpl, h.le, h.Ok, h.τ, h.size, h.marks, by simpa using h.labs, h.l, ?_, h.cl, closed_set h.labs h.cabs hr, ?_, ?_⟩
   ·have : isLoad ops i = loadOp o.op := by simp [isLoad, ho]
    rw [this] at hp
    cases hl : loadOp o.op <;> simpa [hl] using hp
   ·intro j hj; rw [on_set hlt]; exact .inl (h.sub j hj)
   ·intro j oj hj hj' hoj
    rw [on_set hlt] at hj
    by_cases hij : j = i
    ·subst hij
     rw [ho] at hoj; cases hoj
     refine ⟨hql, hd, x, ?_, ?_, ?_⟩
     ·rw [← hx]
      exact (aq_congr fun d hd' => (updO_ne (fun e => hself d e hd')).symm).symm
     ·intro d hd'; simp only [hd']; exact updO_eq
     ·intro hl; simp [hl]
    ·have hj2 := hj.resolve_right hij
     obtain ⟨k1, k2, y, k3, k4, k5⟩ := h.lag j oj hj2 hj' hoj
     refine ⟨k1, k2, y, ?_, ?_, ?_⟩
     ·rw [← k3]
      exact (aq_congr fun d hd' => (updO_ne (fun e => hnr j oj hj2 hoj d e hd')).symm).symm
     ·intro d hd'
      simp only
      rw [updO_ne (fun e => hij (flow_dst hf ho hoj hd' e).symm)]
      exact k4 d hd'
     ·intro hl
      have := k5 hl
      split
      ·exact List.mem_cons_of_mem _ this
      ·exact this
   ·intro d
    by_cases hd' : o.dst = some d
    ·exact .inr ⟨i, o, (on_set hlt).2 (.inr rfl), fun hL => hn (h.sub i hL), ho, hd'⟩
    ·rcases h.rel d with h1 | ⟨j, oj, j1, j2, j3, j4⟩
     ·left; simp only; rw [updO_ne hd']; exact h1
     ·exact .inr ⟨j, oj, (on_set hlt).2 (.inl j1), j2, j3, j4⟩
end Go.Hb
end

section
namespace Go.Hb
open Go Go.RowKit

theorem watch_mem {P : Program} {ops : Array Oper} {st : St} : ∀ {W : List (Nat × LV)}, aWatch P ops st W → ∀ {j : Nat} {x : LV} {o : Oper}, (j, x) ∈ W → ops[j]? = some o → aq P ops o st = some x := by
 intro W
 induction W with
 | nil => intro _ j x o h; cases h
 | cons y W ih =>
  intro h j x o hm ho
  obtain ⟨k, z⟩ := y
  obtain ⟨h1, h2⟩ := h
  rcases List.mem_cons.1 hm with h3 | h3
  ·cases h3
   simpa [ho] using h1
  ·exact ih h2 h3 ho

theorem plan_branch {P : Program} {N : Nat} {ops : Array Oper} {own : Bool} {K : St → Prop} {Labs : Array Bool} {W : List (Nat × LV)} {st : St} {i : Nat} : ∀ (p : Plan) (top : Bool), (∀ j q, p ≠ .q j q) → p.ok ops top Labs (W.map (·.1)) = true → aPlan P N ops own K p W st → i ∈ p.heads →
  ∃ (keep : List Nat) (p' : Plan) (o : Oper), ops[i]? = some o ∧ (∀ j ∈ W.map (·.1), keep.contains j = true ∨ anc ops ops.size j i = true) ∧ p'.ok ops true (Labs.setIfInBounds i true) ((W.filter fun y => keep.contains y.1).map (·.1)) = true ∧
   aOper P N ops o st (fun st' => aWatch P ops st' (W.filter fun y => keep.contains y.1) ∧ aPlan P N ops own K p' (W.filter fun y => keep.contains y.1) st') own := by
 intro p
 induction p with
 | nil => intro top _ _ _ h; simp [Plan.heads] at h
 | q j p _ => intro top h; exact absurd rfl (h j p)
 | w j keep p _ =>
  intro top _ hok hpl hi
  simp only [Plan.heads, List.mem_singleton] at hi
  subst hi
  simp only [Plan.ok, Bool.and_eq_true, List.all_eq_true, Bool.or_eq_true] at hok
  obtain ⟨⟨⟨_, h2⟩, h3⟩, h4⟩ := hok
  simp only [aPlan] at hpl
  cases ho : ops[i]? with
  | none => simp [ho] at hpl
  | some o =>
   simp only [ho] at hpl
   refine ⟨keep, p, o, rfl, h3, ?_, hpl⟩
   have e : ∀ W : List (Nat × LV), (W.filter fun y => keep.contains y.1).map (·.1) = (W.map (·.1)).filter keep.contains := by
    intro W
    induction W with
    | nil => rfl
    | cons y W ih =>
     simp only [List.filter_cons, List.map_cons]
     split <;> simp_all
   rw [e]; exact h4
 | or p p' ih ih' =>
  intro top _ hok hpl hi
  simp only [Plan.ok, Bool.and_eq_true] at hok
  obtain ⟨⟨_, h2⟩, h3⟩ := hok
  have hnq : ∀ (p : Plan), p.ok ops false Labs (W.map (·.1)) = true → ∀ j q, p ≠ .q j q := by
   intro p hp j q e; subst e; simp [Plan.ok] at hp
  simp only [Plan.heads, List.mem_append] at hi
  rcases hi with hi | hi
  ·exact ih false (hnq p h2) h2 hpl.1 hi
  ·exact ih' false (hnq p' h3) h3 hpl.2 hi

open Classical in
theorem Body.step {P : Program} {r : Option Nat} {N : Nat} {ops : Array Oper} {own : Bool} {K : St → Prop} {B : Nat} {C0 C : Ctx} {L : Array Bool} {a : Act} (Q' : Exit → Act → World → Prop) (hf : flowOk ops = true) (h4 : rOk C0.n r) {p : Plan} {Labs : Array Bool} {W : List (Nat × LV)} {st : St} (h : Body P N ops own K B C0 p Labs W st C L a)
  {i : Nat} (hi : i ∈ rdy ops L) : wpOpIn (Fr C0 r) 0 P ops Q' i (fun a' w' => ∃ p' Labs' W' st' C', C'.w = w' ∧ Body P N ops own K B C0 p' Labs' W' st' C' (L.setIfInBounds i true) a') a C.w := by
 obtain ⟨p, Labs, W, st, h, hnq⟩ := Body.sat hf p Labs W st h
 obtain ⟨hnL, o, ho, hedges⟩ := (mem_rdy h.l).1 hi
 have hltL : i < L.size := by rw [h.l]; exact (Array.getElem?_eq_some_iff.1 ho).1
 -- what lags is not known yet
 let lagging : Nat → Prop := fun d => ∃ j oj, on Labs j ∧ ¬ on L j ∧ ops[j]? = some oj ∧ oj.dst = some d
 let t' : Nat → LV := fun d => if lagging d then .any else st.t d
 have hrel : RelS C N B t' a := by
  refine ⟨h.size, fun d => ?_, h.marks⟩
  show RelV C (if lagging d then .any else st.t d) _
  by_cases hl : lagging d
  ·rw [if_pos hl]; simp [RelV]
  ·rw [if_neg hl]; exact (h.rel d).resolve_right hl
 have hreads : ∀ d ∈ reads ops o, st.t d = t' d := by
  intro d hd
  have hl : ¬ lagging d := by
   rintro ⟨j, oj, j1, j2, j3, j4⟩
   obtain ⟨e, he, hb, hon⟩ := quiet_reads (h.lag j oj j1 j2 j3).1 ho j3 j4 hd
   exact j2 (hon ▸ hedges e he hb)
  show st.t d = if lagging d then .any else st.t d
  rw [if_neg hl]
 have hselfL : ∀ d, o.dst = some d → ∀ j oj, on Labs j → ops[j]? = some oj → oj.dst = some d → j = i := fun d hd j oj _ hoj hd' => (flow_dst hf ho hoj hd' hd).symm
 by_cases hLi : on Labs i
 ·-- it was reckoned ahead
  obtain ⟨k1, k2, x, k3, k4, k5⟩ := h.lag i o hLi hnL ho
  replace k1 := quiet_op k1 ho
  have hop : aOper P N ops o ⟨t', st.s, st.v⟩ (fun st'' => st'' = ⟨updO o.dst x t', st.s, st.v⟩) := by
   refine ⟨k2, ?_⟩
   have k3' : aq P ops o ⟨t', st.s, st.v⟩ = some x := by rw [← k3]; exact (aq_congr hreads).symm
   unfold aq at k3'
   cases hg : aGuard ops t' o with
   | none => simp [hg] at k3'
   | some b =>
    cases b with
    | false => simp only [hg, Option.some.injEq] at k3' ⊢; rw [k3']
    | true =>
     simp only [hg, Option.map_eq_some_iff] at k3' ⊢
     obtain ⟨⟨y, s', v'⟩, k6, k7⟩ := k3'
     simp only at k7; subst k7
     obtain ⟨rfl, rfl⟩ := aop_quiet k1 k6
     have hc : callee o.op t' = .no := by
      unfold callee
      cases hop : o.op <;> simp only [hop, quietOp] at k1 ⊢ <;> (try (cases k1; done))
      rename_i c
      cases hcc : c.callee <;> simp only [hcc] at k1 ⊢ <;> (try (cases k1; done))
     simp only [hc, aopO_false, k6]
  have hs := aOper_sound (r := r) Q' ho hop B C a h.Ok h.τ hrel (rOk.mono h.le h4)
  rw [Fr.eq h.le h4] at hs
  refine wpOpIn_mono ?_ hs
  rintro a' w' ⟨C', st'', rfl, m1, m2, m3, m4, rfl⟩
  obtain ⟨m5, m6, m7⟩ := m4
  refine ⟨p, Labs, W, st, C', rfl, ⟨h.ok, h.plan, h.le.trans m1, m2, m3, m5, m7, h.labs, by simpa using h.l, ?_, closed_set h.l h.cl hi, h.cabs, ?_, ?_⟩⟩
  ·intro j hj; rw [on_set hltL] at hj; rcases hj with hj | rfl
   ·exact h.sub j hj
   ·exact hLi
  ·intro j oj hj hj' hoj
   rw [on_set hltL] at hj'
   exact h.lag j oj hj (fun hh => hj' (.inl hh)) hoj
  ·intro d
   have m6d := m6 d
   simp only at m6d
   by_cases hd : o.dst = some d
   ·left
    rw [hd, updO_eq] at m6d
    rw [k4 d hd]; exact m6d
   ·rw [updO_ne hd] at m6d
    by_cases hl : lagging d
    ·obtain ⟨j, oj, j1, j2, j3, j4⟩ := hl
     right
     refine ⟨j, oj, j1, fun hh => ?_, j3, j4⟩
     rw [on_set hltL] at hh
     rcases hh with hh | rfl
     ·exact j2 hh
     ·rw [ho] at j3; cases j3; exact hd j4
    ·left
     have e : t' d = st.t d := if_neg hl
     rw [e] at m6d; exact m6d
 ·-- it writes, or calls
  have hiabs : i ∈ rdy ops Labs := (mem_rdy h.labs).2 ⟨hLi, o, ho, fun e he hb => h.sub _ (hedges e he hb)⟩
  have hlt : i < Labs.size := by rw [h.labs]; exact (Array.getElem?_eq_some_iff.1 ho).1
  have hhead : i ∈ p.heads := by
   have hok := h.ok
   cases p with
   | nil => simp only [Plan.ok, Bool.true_and, List.isEmpty_iff] at hok; rw [hok] at hiabs; cases hiabs
   | q j q => exact absurd rfl (hnq j q)
   | w j keep q =>
    simp only [Plan.ok, Bool.and_eq_true, Bool.not_true, Bool.false_or, headsOk, List.all_eq_true] at hok
    have := hok.1.1.1.2 i hiabs
    simp only [List.contains_eq_mem, decide_eq_true_eq] at this
    exact this.2
   | or q q' =>
    simp only [Plan.ok, Bool.and_eq_true, Bool.not_true, Bool.false_or, headsOk, List.all_eq_true] at hok
    have := hok.1.1.2 i hiabs
    simp only [List.contains_eq_mem, decide_eq_true_eq] at this
    exact this.2
  obtain ⟨keep, p', o', ho', hkeep, hok', hop⟩ := plan_branch p true hnq h.ok h.plan hhead
  rw [ho] at ho'; cases ho'
  let W' := W.filter fun y => keep.contains y.1
  have hop' : aOper P N ops o ⟨t', st.s, st.v⟩ (fun st'' => ∃ x, st''.t = updO o.dst x t' ∧ aWatch P ops ⟨updO o.dst x st.t, st''.s, st''.v⟩ W' ∧ aPlan P N ops own K p' W' ⟨updO o.dst x st.t, st''.s, st''.v⟩) own := by
   obtain ⟨hd, hop⟩ := hop
   refine ⟨hd, ?_⟩
   rw [guard_congr hreads, callee_congr hreads] at hop
   cases hg : aGuard ops t' o with
   | none => simp [hg] at hop
   | some b =>
    cases b with
    | false => simp only [hg] at hop ⊢; exact ⟨_, rfl, hop⟩
    | true =>
     simp only [hg] at hop ⊢
     cases hc : callee o.op t' with
     | bad => simp [hc] at hop
     | func f args => simp only [hc] at hop ⊢; exact aCalls_mono hop fun x s v hh => ⟨x, rfl, hh⟩
     | yld l args =>
      simp only [hc] at hop ⊢
      intro C vs q1 q2 q3
      obtain ⟨q4, fn, tmps, assign, body, q5, q6⟩ := hop C vs q1 q2 q3
      exact ⟨q4, fn, tmps, assign, body, q5, fun F hF => (q6 F hF).mono fun e w' ⟨C', x, u, s', v', y1, y2, y3, y4, y5, y6, y7⟩ => ⟨C', x, u, s', v', y1, y2, y3, y4, y5, y6, x, rfl, y7⟩⟩
     | no =>
      simp only [hc] at hop ⊢
      have e : aopO P own o.op st = aopO P own o.op ⟨t', st.s, st.v⟩ := aopO_congr (operands_congr hreads)
      rw [e] at hop
      cases ha : aopO P own o.op ⟨t', st.s, st.v⟩ with
      | none => simp [ha] at hop
      | some y => obtain ⟨x, s, v⟩ := y; simp only [ha] at hop ⊢; exact ⟨x, rfl, hop⟩
  have hs := aOper_sound (r := r) Q' ho hop' B C a h.Ok h.τ hrel (rOk.mono h.le h4)
  rw [Fr.eq h.le h4] at hs
  refine wpOpIn_mono ?_ hs
  rintro a' w' ⟨C', st'', rfl, m1, m2, m3, m4, x, m8, m9, m10⟩
  obtain ⟨m5, m6, m7⟩ := m4
  have hnr : ∀ j oj, on Labs j → ¬ on L j → ops[j]? = some oj → ∀ d, o.dst = some d → d ∉ reads ops oj := by
   intro j oj hj hj' hoj d hd' hr'
   rcases flow_reads hf hoj ho hd' hr' with ⟨e, he, hb, hon⟩ | ⟨e, he, hb, hon⟩
   ·exact hLi (hon ▸ h.cabs j oj hj hoj e he hb)
   ·exact hj' (hon ▸ hedges e he hb)
  refine ⟨p', Labs.setIfInBounds i true, W', ⟨updO o.dst x st.t, st''.s, st''.v⟩, C', rfl, ⟨hok', m10, h.le.trans m1, m2, m3, m5, m7, by simpa using h.labs, by simpa using h.l, ?_, closed_set h.l h.cl hi, closed_set h.labs h.cabs hiabs, ?_, ?_⟩⟩
  ·intro j hj; rw [on_set hltL] at hj; rw [on_set hlt]; rcases hj with hj | hj
   ·exact .inl (h.sub j hj)
   ·exact .inr hj
  ·intro j oj hj hj' hoj
   rw [on_set hltL] at hj'
   rw [on_set hlt] at hj
   have hji : j ≠ i := fun e => hj' (.inr e)
   have hj2 := hj.resolve_right hji
   have hj3 : ¬ on L j := fun e => hj' (.inl e)
   obtain ⟨k1, k2, y, k3, k4, k5⟩ := h.lag j oj hj2 hj3 hoj
   refine ⟨k1, k2, y, ?_, ?_, ?_⟩
   ·cases hl : loadOp oj.op with
    | true =>
     have hmem := k5 hl
     have hk := hkeep j (List.mem_map.2 ⟨(j, y), hmem, rfl⟩)
     have hna : ¬ anc ops ops.size j i = true := fun hh => hj3 (anc_on h.cl _ _ _ hh fun o' ho' e he hb => by rw [ho] at ho'; cases ho'; exact hedges e he hb)
     have hk2 := hk.resolve_right hna
     exact watch_mem m9 (List.mem_filter.2 ⟨hmem, hk2⟩) hoj
    | false =>
     rw [← k3]
     rw [aq_pure (s' := st.s) (v' := st.v) (quiet_op k1 hoj) hl]
     exact (aq_congr fun d hd' => (updO_ne (fun e => hnr j oj hj2 hj3 hoj d e hd')).symm).symm
   ·intro d hd'
    simp only
    rw [updO_ne (fun e => hji (flow_dst hf ho hoj hd' e).symm)]
    exact k4 d hd'
   ·intro hl
    have hmem := k5 hl
    have hk := hkeep j (List.mem_map.2 ⟨(j, y), hmem, rfl⟩)
    have hna : ¬ anc ops ops.size j i = true := fun hh => hj3 (anc_on h.cl _ _ _ hh fun o' ho' e he hb => by rw [ho] at ho'; cases ho'; exact hedges e he hb)
    exact List.mem_filter.2 ⟨hmem, hk.resolve_right hna⟩
  ·intro d
   have m6d := m6 d
   rw [m8] at m6d
   by_cases hd : o.dst = some d
   ·left
    rw [hd, updO_eq] at m6d
    simp only [hd, updO_eq]; exact m6d
   ·rw [updO_ne hd] at m6d
    by_cases hl : lagging d
    ·obtain ⟨j, oj, j1, j2, j3, j4⟩ := hl
     right
     refine ⟨j, oj, (on_set hlt).2 (.inl j1), fun hh => ?_, j3, j4⟩
     rw [on_set hltL] at hh
     rcases hh with hh | rfl
     ·exact j2 hh
     ·exact hLi j1
    ·left
     have e : t' d = st.t d := if_neg hl
     rw [e] at m6d
     simp only; rw [updO_ne hd]; exact m6d

def left (L : Array Bool) : Nat := (L.toList.filter (! ·)).length

theorem left_set {L : Array Bool} {i : Nat} (hi : i < L.size) (hn : ¬ on L i) : left (L.setIfInBounds i true) < left L := by
 have h0 : L.toList[i]? = some false := by
  unfold on at hn
  simp only [Array.getD_eq_getD_getElem?, Array.getElem?_eq_getElem hi, Option.getD_some] at hn
  simp [hi]; simpa using hn
 unfold left
 rw [Array.toList_setIfInBounds]
 generalize L.toList = l at h0
 clear hi hn
 induction l generalizing i with
 | nil => simp at h0
 | cons b l ih =>
  cases i with
  | zero => simp at h0; subst h0; simp
  | succ i =>
   simp at h0
   have := ih h0
   simp only [List.set_cons_succ, List.filter_cons]
   split <;> simp <;> omega

theorem wpAnyIn_inv {P : Program} {F : Fence} {n : Nat} {ops : Array Oper} {Q : Exit → Act → World → Prop} (I : Array Bool → Act → World → Prop) (hsz : ∀ L a w, I L a w → L.size = ops.size)
  (step : ∀ L a w i, I L a w → i ∈ rdy ops L → wpOpIn F n P ops Q i (I (L.setIfInBounds i true)) a w) (done : ∀ L a w, I L a w → rdy ops L = [] → Q .normal a w) :
  ∀ (fuel : Nat) (L : Array Bool) (a : Act) (w : World), left L ≤ fuel → I L a w → wpAnyIn F n P .any ops Q fuel L a w := by
 intro fuel
 induction fuel with
 | zero =>
  intro L a w hl h
  have : rdy ops L = [] := by
   cases hr : rdy ops L with
   | nil => rfl
   | cons i rs =>
    have hi : i ∈ rdy ops L := by rw [hr]; simp
    obtain ⟨hn, o, ho, _⟩ := (mem_rdy (hsz _ _ _ h)).1 hi
    have := left_set (L := L) (i := i) (by rw [hsz _ _ _ h]; exact (Array.getElem?_eq_some_iff.1 ho).1) hn
    omega
  exact ⟨this, done _ _ _ h this⟩
 | succ fuel ih =>
  intro L a w hl h
  refine ⟨done _ _ _ h, fun i hi => ?_⟩
  obtain ⟨hn, o, ho, _⟩ := (mem_rdy (hsz _ _ _ h)).1 hi
  have := left_set (L := L) (i := i) (by rw [hsz _ _ _ h]; exact (Array.getElem?_eq_some_iff.1 ho).1) hn
  exact wpOpIn_mono (fun a w h' => ih _ a w (by omega) h') (step _ _ _ i h hi)

theorem Body.done {P : Program} {N : Nat} {ops : Array Oper} {own : Bool} {K : St → Prop} {B : Nat} {C0 C : Ctx} {L : Array Bool} {a : Act} (hf : flowOk ops = true) {p : Plan} {Labs : Array Bool} {W : List (Nat × LV)} {st : St} (h : Body P N ops own K B C0 p Labs W st C L a)
  (hr : rdy ops L = []) : ∃ st', Hb.Ok C st'.s ∧ C.τ = st'.v ∧ RelS C N B st'.t a ∧ K st' := by
 obtain ⟨p, Labs, W, st, h, hnq⟩ := Body.sat hf p Labs W st h
 have hall : ∀ j, ∀ o, ops[j]? = some o → on Labs j → on L j := by
  intro j
  induction j using Nat.strongRecOn with
  | _ j ih =>
   intro o ho hj
   by_cases hL : on L j
   ·exact hL
   ·have : j ∈ rdy ops L := (mem_rdy h.l).2 ⟨hL, o, ho, fun e he hb => by
     have hlt := flow_back hf ho he hb
     have hon := h.cabs j o hj ho e he hb
     have hs : e.on < ops.size := by have := (Array.getElem?_eq_some_iff.1 ho).1; omega
     exact ih e.on hlt ops[e.on] (by simp [hs]) hon⟩
    rw [hr] at this; cases this
 have hr2 : rdy ops Labs = [] := by
  cases hrr : rdy ops Labs with
  | nil => rfl
  | cons i rs =>
   have hi : i ∈ rdy ops Labs := by rw [hrr]; simp
   obtain ⟨hn, o, ho, he⟩ := (mem_rdy h.labs).1 hi
   have : i ∈ rdy ops L := (mem_rdy h.l).2 ⟨fun hL => hn (h.sub i hL), o, ho, fun e he' hb => by
    have hon := he e he' hb
    have hlt := flow_back hf ho he' hb
    have hs : e.on < ops.size := by have := (Array.getElem?_eq_some_iff.1 ho).1; omega
    exact hall e.on ops[e.on] (by simp [hs]) hon⟩
   rw [hr] at this; cases this
 have hok := h.ok
 have hpl := h.plan
 refine ⟨st, h.Ok, h.τ, ⟨h.size, fun d => ?_, h.marks⟩, ?_⟩
 ·rcases h.rel d with h1 | ⟨j, o, j1, j2, j3, j4⟩
  ·exact h1
  ·exact absurd (hall j o j3 j1) j2
 ·cases p with
  | nil => exact hpl
  | q j q => exact absurd rfl (hnq j q)
  | w j k q => simp [Plan.ok, headsOk, hr2] at hok
  | or q q' => simp [Plan.ok, headsOk, hr2] at hok

theorem aW_draw {P : Program} {r : Option Nat} {N id : Nat} {ops : Array Oper} {own : Bool} {Q : Exit → St → Prop} {st : St} (p : Plan) (hm : P.follows .mixedOrders = true) (hf : flowOk ops = true) (hp : p.ok ops true (Array.replicate ops.size false) [] = true)
  (h : aPlan P N ops own (Q .normal) p [] st) : aW P r N (.region id ops true) Q st := by
 intro B C a h1 h2 h3 h4
 refine wpIn_region_any hm ?_
 obtain ⟨h5, h6, h7⟩ := h3
 have hoff : ∀ i, ¬ on (Array.replicate ops.size false) i := by
  intro i hi
  unfold on at hi
  rw [Array.getD_eq_getD_getElem?] at hi
  by_cases hs : i < ops.size <;> simp [hs] at hi
 have hdr : C.drew.w = { C.w with drawn := C.w.drawn + 1 } := rfl
 rw [← hdr]
 refine wpAnyIn_inv (fun L a w => ∃ p Labs W st' C', C'.w = w ∧ Body P N ops own (Q .normal) B C p Labs W st' C' L a) ?_ ?_ ?_ _ _ _ _ ?_ ?_
 ·rintro L a w ⟨p, Labs, W, st', C', _, hb⟩; exact hb.l
 ·rintro L a w i ⟨p, Labs, W, st', C', rfl, hb⟩ hi
  exact hb.step _ hf h4 hi
 ·rintro L a w ⟨p, Labs, W, st', C', rfl, hb⟩ hr
  obtain ⟨st2, k1, k2, k3, k4⟩ := hb.done hf hr
  exact ⟨C', st2, rfl, hb.le, k1, k2, k3, k4⟩
 ·unfold left
  refine Nat.le_trans (List.length_filter_le _ _) (by simp)
 ·refine ⟨p, _, [], st, C.drew, rfl, ⟨hp, h, C.le_drew, h1.drew, h2, h5, RelD.mono C.le_drew h7, by simp, by simp, fun i hi => hi, fun i o hi => absurd hi (hoff i), fun i o hi => absurd hi (hoff i), fun j o hj => absurd hj (hoff j), fun d => .inl (RelV.mono C.le_drew _ _ (h6 d))⟩⟩
end Go.Hb
end

