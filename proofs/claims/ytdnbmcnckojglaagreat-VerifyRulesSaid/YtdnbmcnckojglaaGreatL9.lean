/-
  A layer for reasoning about the program's calls, and contracts of its functions (L9). CONDITIONS: none; each theorem bears its own.
-/
import Derived.Test.YtdnbmcnckojglaaGreatL8
import Derived.Test.YtdnbmcnckojglaaGreatL7
set_option linter.unusedVariables false
set_option linter.unusedSimpArgs false
section
namespace Go.Hb
open Go
theorem at_in {α : Type} [Enc α] {l : List α} {t : Int} (h0 : 0 ≤ t) (h1 : t < l.length) : at' l t ∈ l := nth_mem (by omega)
def kept' (l : List Int) : Prop := ∀ x ∈ l, -1073741824 ≤ x ∧ x ≤ 1073741824
def FrmI (p : Prog) (f : Frm) : Prop := (0 ≤ f.func ∧ f.func < p.funcs.length) ∧ (0 ≤ f.pc ∧ f.pc ≤ (at' p.funcs f.func).code.length) ∧ (f.locals.length : Int) = (at' p.funcs f.func).locals ∧ kept' f.locals
structure ThrI (p : Prog) (t : Thr) : Prop where
 st : 0 ≤ t.state ∧ t.state ≤ 9
 code : 0 ≤ t.code ∧ t.code ≤ 6
 fr : t.frames.length ≤ 8
 sk : t.stack.length ≤ 16
 frs : ∀ f ∈ t.frames, FrmI p f
 sks : kept' t.stack
 over : t.state = 9 → t.frames = [] ∧ t.stack = []
 live : t.state ≠ 9 → t.frames ≠ [] ∧ t.code = 0
theorem allTo_iff {l : List Int} {n : Int} : allTo l n = true ↔ ∀ x ∈ l, 0 ≤ x ∧ x ≤ n := by unfold allTo; simp
structure MayP (p : Prog) : Prop where
 funcs : 1 ≤ p.funcs.length ∧ p.funcs.length ≤ 16
 mutexes : 0 ≤ p.mutexes ∧ p.mutexes ≤ 8
 conds : p.conds.length ≤ 8 ∧ ∀ x ∈ p.conds, 0 ≤ x ∧ x < p.mutexes
 semas : p.semas.length ≤ 8 ∧ ∀ x ∈ p.semas, 0 ≤ x ∧ x ≤ 100
 chans : p.chans.length ≤ 8 ∧ ∀ x ∈ p.chans, 0 ≤ x ∧ x ≤ 8
 choices : p.choices.length ≤ 8 ∧ ∀ l ∈ p.choices, l.Nodup ∧ 1 ≤ l.length ∧ l.length ≤ 8 ∧ ∀ x ∈ l, 0 ≤ x ∧ x < p.chans.length
 threads : 1 ≤ p.threads ∧ p.threads ≤ 32
 code : ∀ f ∈ p.funcs, 0 ≤ f.locals ∧ f.locals ≤ 8 ∧ f.code.length ≤ 64 ∧ ∀ i ∈ f.code, mayI p f i = true
theorem mayP_iff {p : Prog} (h : mayP p = true) : MayP p := by
 unfold mayP at h
 simp only [Bool.and_eq_true, decide_eq_true_eq, List.all_eq_true, allTo_iff] at h
 obtain ⟨⟨⟨⟨⟨⟨⟨⟨⟨⟨⟨⟨⟨⟨h1, h2⟩, h3⟩, h4⟩, h5⟩, h6⟩, h7⟩, h8⟩, h9⟩, h10⟩, h11⟩, h12⟩, h13⟩, h14⟩, h15⟩ := h
 refine ⟨⟨h1, h2⟩, ⟨h3, h4⟩, ⟨h5, fun x hx => by have := h11 x hx; omega⟩, ⟨h6, h12⟩, ⟨h7, h13⟩, ⟨h8, fun l hl => ?_⟩, ⟨h9, h10⟩, fun f hf => ?_⟩
 ·have := h14 l hl
  unfold mayCh at this
  simp only [Bool.and_eq_true, decide_eq_true_eq, allTo_iff] at this
  exact ⟨this.1.1.2, this.1.2, this.2, fun x hx => by have := this.1.1.1 x hx; omega⟩
 ·have := h15 f hf
  unfold mayF at this
  simp only [Bool.and_eq_true, decide_eq_true_eq, List.all_eq_true] at this
  exact ⟨this.1.1.1, this.1.1.2, this.1.2, this.2⟩
theorem thrI_b {p : Prog} (hp : MayP p) {t : Thr} (h : ThrI p t) : ThrB t := ⟨h.fr, by have := h.sk; omega, fun f hf => by
 have h1 := h.frs f hf
 have := hp.code (at' p.funcs f.func) (at_in h1.1.1 h1.1.2)
 have := h1.2.2.1
 omega⟩
theorem kept_app {a b : List Int} (ha : kept' a) (hb : kept' b) : kept' (a ++ b) := fun x hx => by
 rcases List.mem_append.1 hx with h | h
 ·exact ha x h
 ·exact hb x h
theorem kept_keep (n : Int) : kept' [keep n] := fun x hx => by simp at hx; subst hx; exact keep_in n
theorem kept_take {l : List Int} (h : kept' l) (n : Nat) : kept' (l.take n) := fun x hx => h x (List.mem_of_mem_take hx)
theorem kept_drop {l : List Int} (h : kept' l) (n : Nat) : kept' (l.drop n) := fun x hx => h x (List.mem_of_mem_drop hx)
theorem kept_set {l : List Int} (h : kept' l) (n : Nat) {x : Int} (hx : -1073741824 ≤ x ∧ x ≤ 1073741824) : kept' (l.set n x) := fun y hy => by
 rcases List.mem_or_eq_of_mem_set hy with hy | rfl
 ·exact h y hy
 ·exact hx
theorem kept_nth {l : List Int} (h : kept' l) (n : Nat) : -1073741824 ≤ nth l n ∧ nth l n ≤ 1073741824 := by
 by_cases hn : n < l.length
 ·exact h _ (nth_mem hn)
 ·rw [show nth l n = 0 from by unfold nth; rw [List.getD_eq_getElem?_getD, List.getElem?_eq_none (by omega)]; rfl]; omega
structure Goes (p : Prog) (t t' : Thr) : Prop where
 i : ThrI p t'
 st : t'.state = t.state
 on : t'.on = t.on
theorem Goes.refl {p : Prog} {t : Thr} (h : ThrI p t) : Goes p t t := ⟨h, rfl, rfl⟩
theorem Goes.trans {p : Prog} {t t' t'' : Thr} (h : Goes p t t') (k : Goes p t' t'') : Goes p t t'' := ⟨k.i, k.st.trans h.st, k.on.trans h.on⟩
theorem push_i {p : Prog} {t : Thr} (h : ThrI p t) (hs : t.state ≠ 9) (v : Int) : Goes p t (push t v).1 := by
 unfold push
 split
 ·exact .refl h
 ·refine ⟨⟨h.st, h.code, h.fr, ?_, h.frs, kept_app h.sks (kept_keep v), fun h9 => absurd h9 hs, h.live⟩, rfl, rfl⟩
  simp; omega
theorem pop_i {p : Prog} {t : Thr} (h : ThrI p t) (hs : t.state ≠ 9) : Goes p t (pop t).1 := by
 unfold pop
 split
 ·exact .refl h
 ·refine ⟨⟨h.st, h.code, h.fr, ?_, h.frs, kept_take h.sks _, fun h9 => absurd h9 hs, h.live⟩, rfl, rfl⟩
  have := h.sk
  simp; omega
theorem popN_i {p : Prog} {t : Thr} (h : ThrI p t) (hs : t.state ≠ 9) : ∀ n, Goes p t (popN n t).1
 | 0 => .refl h
 | n + 1 => (popN_i h hs n).trans (pop_i (popN_i h hs n).i (by rw [(popN_i h hs n).st]; exact hs))
theorem top_mem {t : Thr} (h : t.frames ≠ []) : topF t ∈ t.frames := nth_mem (by have : t.frames.length ≠ 0 := fun e => h (List.length_eq_zero_iff.1 e); omega)
theorem frm_set {p : Prog} {t : Thr} (h : ThrI p t) (hs : t.state ≠ 9) {f : Frm} (hf : FrmI p f) : Goes p t { t with frames := t.frames.set (t.frames.length - 1) f } := by
 refine ⟨⟨h.st, h.code, by simpa using h.fr, h.sk, fun g hg => ?_, h.sks, fun h9 => absurd h9 hs, fun h9 => ⟨?_, (h.live h9).2⟩⟩, rfl, rfl⟩
 ·rcases List.mem_or_eq_of_mem_set hg with hg | rfl
  ·exact h.frs g hg
  ·exact hf
 ·intro e
  have := congrArg List.length e
  simp at this
  exact (h.live h9).1 this
theorem jump_i {p : Prog} {t : Thr} (h : ThrI p t) (hs : t.state ≠ 9) {pc : Int} (h0 : 0 ≤ pc) (h1 : pc ≤ (at' p.funcs (topF t).func).code.length) : Goes p t (jump t pc) := by
 have := h.frs _ (top_mem (h.live hs).1)
 exact frm_set h hs ⟨this.1, ⟨h0, h1⟩, this.2.2⟩
theorem setL_i {p : Prog} {t : Thr} (h : ThrI p t) (hs : t.state ≠ 9) (i v : Int) : Goes p t (setL t i v) := by
 have := h.frs _ (top_mem (h.live hs).1)
 exact frm_set h hs ⟨this.1, this.2.1, by simpa using this.2.2.1, kept_set this.2.2.2 _ (keep_in v)⟩
theorem frameOf_i {p : Prog} (hp : MayP p) {f : Int} (h0 : 0 ≤ f) (h1 : f < p.funcs.length) : FrmI p (frameOf p f) := by
 have := hp.code _ (at_in h0 h1)
 refine ⟨⟨h0, h1⟩, ⟨by simp [frameOf], by simp [frameOf]⟩, ?_, fun x hx => ?_⟩
 ·simp [frameOf]; omega
 ·simp [frameOf] at hx; omega
theorem thrNew_i {p : Prog} (hp : MayP p) {f : Int} (h0 : 0 ≤ f) (h1 : f < p.funcs.length) : ThrI p (thrNew p f) :=
 ⟨by simp [thrNew], by simp [thrNew], by simp [thrNew], by simp [thrNew], fun g hg => by simp [thrNew] at hg; subst hg; exact frameOf_i hp h0 h1, fun x hx => by simp [thrNew] at hx, by simp [thrNew], fun _ => ⟨by simp [thrNew], rfl⟩⟩
theorem thrEnd_i (p : Prog) {c : Int} (h0 : 0 ≤ c) (h1 : c ≤ 6) : ThrI p (thrEnd c) :=
 ⟨by simp [thrEnd], ⟨h0, h1⟩, by simp [thrEnd], by simp [thrEnd], by simp [thrEnd], fun x hx => by simp [thrEnd] at hx, fun _ => ⟨rfl, rfl⟩, fun h => absurd rfl h⟩
theorem enter_i {p : Prog} (hp : MayP p) {t : Thr} (h : ThrI p t) (hs : t.state ≠ 9) {f : Int} (h0 : 0 ≤ f) (h1 : f < p.funcs.length) : Goes p t (enter p t f).1 := by
 unfold enter
 split
 ·exact .refl h
 ·refine ⟨⟨h.st, h.code, by simp; omega, h.sk, fun g hg => ?_, h.sks, fun h9 => absurd h9 hs, fun h9 => ⟨by simp, (h.live h9).2⟩⟩, rfl, rfl⟩
  rcases List.mem_append.1 hg with hg | hg
  ·exact h.frs g hg
  ·simp at hg; subst hg; exact frameOf_i hp h0 h1
theorem leave_i {p : Prog} {t : Thr} (h : ThrI p t) (hs : t.state ≠ 9) (hl : (leave t).2 = true) : Goes p t (leave t).1 := by
 unfold leave at hl ⊢
 simp only [decide_eq_true_eq] at hl
 refine ⟨⟨h.st, h.code, ?_, h.sk, fun g hg => h.frs g (List.mem_of_mem_take hg), h.sks, fun h9 => absurd h9 hs, fun h9 => ⟨?_, (h.live h9).2⟩⟩, rfl, rfl⟩
 ·have := h.fr; simp; omega
 ·intro e
  have := congrArg List.length e
  simp at this
  omega
theorem thrTell_i {p : Prog} : ∀ (l : List Int) {t : Thr}, ThrI p t → t.state ≠ 9 → (thrTell t l).2 = true → Goes p t (thrTell t l).1
 | [], t, h, _, _ => .refl h
 | v :: l, t, h, hs, hok => by
  unfold thrTell at hok ⊢
  split
  ·rename_i hp
   rw [if_pos hp] at hok
   have h1 := push_i h hs v
   exact h1.trans (thrTell_i l h1.i (by rw [h1.st]; exact hs) hok)
  ·rename_i hp
   rw [if_neg hp] at hok; cases hok
structure ReqI (p : Prog) (q : Req) : Prop where
 kind : 0 ≤ q.kind ∧ q.kind ≤ 16 ∧ q.kind ≠ 1
 v : -1073741824 ≤ q.v ∧ q.v ≤ 1073741824
 spawn : q.kind = 3 → 0 ≤ q.a ∧ q.a < p.funcs.length
 mutex : q.kind = 6 ∨ q.kind = 7 → 0 ≤ q.a ∧ q.a < p.mutexes
 cond : q.kind = 8 ∨ q.kind = 9 ∨ q.kind = 10 → 0 ≤ q.a ∧ q.a < p.conds.length
 sema : q.kind = 11 ∨ q.kind = 12 → 0 ≤ q.a ∧ q.a < p.semas.length
 chan : q.kind = 13 ∨ q.kind = 14 → 0 ≤ q.a ∧ q.a < p.chans.length
 choice : q.kind = 15 → 0 ≤ q.a ∧ q.a < p.choices.length
theorem req0 (p : Prog) : ReqI p ⟨0, 0, 0⟩ := ⟨by simp, by simp, by simp, by simp, by simp, by simp, by simp, by simp⟩
def VmI (p : Prog) (t : Thr) (r : Thr × Req) : Prop := (∃ c, 0 ≤ c ∧ c ≤ 6 ∧ r = ends c) ∨ (Goes p t r.1 ∧ ReqI p r.2)
theorem vm_end {p : Prog} {t : Thr} {c : Int} (h0 : 0 ≤ c) (h1 : c ≤ 6) : VmI p t (ends c) := .inl ⟨c, h0, h1, rfl⟩
theorem vm_go {p : Prog} {t t' : Thr} (h : Goes p t t') : VmI p t (t', ⟨0, 0, 0⟩) := .inr ⟨h, req0 p⟩
theorem pushed_i {p : Prog} {t t' : Thr} (hg : Goes p t t') (hs : t.state ≠ 9) (v : Int) : VmI p t (pushed t' v) := by
 unfold pushed
 split
 ·exact vm_go (hg.trans (push_i hg.i (by rw [hg.st]; exact hs) v))
 ·exact vm_end (by omega) (by omega)
theorem mayI_ask {p : Prog} {f : Fn_} {i : Ins} (h : mayI p f i = true) (ha : asks i.op = true) (h0 : i.op ≠ 0) : 0 ≤ i.a ∧ i.a < most p f i.op := by
 unfold mayI at h
 rw [if_pos ha, if_neg (by omega)] at h
 simpa using (by simpa using h : _ ∧ _).2
theorem mayI_op {p : Prog} {f : Fn_} {i : Ins} (h : mayI p f i = true) : 0 ≤ i.op ∧ i.op ≤ 26 := by
 unfold mayI at h
 simp only [Bool.and_eq_true, decide_eq_true_eq] at h
 exact h.1
theorem topF_jump {t : Thr} (h : t.frames ≠ []) (pc : Int) : topF (jump t pc) = { topF t with pc := pc } := by
 have : t.frames.length ≠ 0 := fun e => h (List.length_eq_zero_iff.1 e)
 unfold jump topF
 simp only [List.length_set]
 rw [nth_set (by omega)]
theorem act_i {p : Prog} (hp : MayP p) {t t' : Thr} {f : Fn_} {i : Ins} {l : List Int} (hg : Goes p t t') (hs : t.state ≠ 9) (hf : at' p.funcs (topF t').func = f) (hi : mayI p f i = true) : VmI p t (act p t' i l) := by
 have hs' : t'.state ≠ 9 := by rw [hg.st]; exact hs
 unfold act
 by_cases h : i.op = 0
 ·rw [if_pos h]; exact pushed_i hg hs _
 rw [if_neg h]; clear h
 by_cases h : i.op = 2
 ·rw [if_pos h]; exact pushed_i (hg.trans (push_i hg.i hs' _)) hs _
 rw [if_neg h]; clear h
 by_cases h : i.op = 3
 ·rw [if_pos h]; exact pushed_i hg hs _
 rw [if_neg h]; clear h
 by_cases h : i.op = 4
 ·rw [if_pos h]; exact pushed_i hg hs _
 rw [if_neg h]; clear h
 by_cases h : i.op = 5
 ·rw [if_pos h]; exact pushed_i hg hs _
 rw [if_neg h]; clear h
 by_cases h : i.op = 6
 ·rw [if_pos h]; exact vm_go (hg.trans (setL_i hg.i hs' _ _))
 rw [if_neg h]; clear h
 by_cases h : i.op = 7
 ·rw [if_pos h]
  have := mayI_ask hi (by rw [h]; rfl) (by omega)
  rw [h] at this
  simp [most, mostL] at this
  exact vm_go (hg.trans (jump_i hg.i hs' this.1 (by rw [hf]; omega)))
 rw [if_neg h]; clear h
 by_cases h : i.op = 8
 ·rw [if_pos h]
  have := mayI_ask hi (by rw [h]; rfl) (by omega)
  rw [h] at this
  simp [most, mostL] at this
  split
  ·exact vm_go (hg.trans (jump_i hg.i hs' this.1 (by rw [hf]; omega)))
  ·exact vm_go hg
 rw [if_neg h]; clear h
 by_cases h : i.op = 9
 ·rw [if_pos h]
  have := mayI_ask hi (by rw [h]; rfl) (by omega)
  rw [h] at this
  simp [most, mostL] at this
  split
  ·exact vm_go (hg.trans (enter_i hp hg.i hs' this.1 this.2))
  ·exact vm_end (by omega) (by omega)
 rw [if_neg h]; clear h
 by_cases h : i.op = 10
 ·rw [if_pos h]
  split
  ·rename_i h
   exact vm_go (hg.trans (leave_i hg.i hs' h))
  ·exact vm_end (by omega) (by omega)
 rw [if_neg h]; clear h
 by_cases h : i.op = 26
 ·rw [if_pos h]; exact vm_end (by omega) (by omega)
 ·rw [if_neg h]; exact vm_go hg
theorem kindOf_i {p : Prog} {f : Fn_} {i : Ins} {v : Int} (hi : mayI p f i = true) (hk : 0 < kindOf i.op) (hv : -1073741824 ≤ v ∧ v ≤ 1073741824) : ReqI p ⟨kindOf i.op, i.a, v⟩ := by
 have ho := mayI_op hi
 have ha := mayI_ask hi
 obtain ⟨op, a⟩ := i
 simp only at ho ha hk ⊢
 have : op = 11 ∨ op = 12 ∨ op = 13 ∨ op = 14 ∨ op = 15 ∨ op = 16 ∨ op = 17 ∨ op = 18 ∨ op = 19 ∨ op = 20 ∨ op = 21 ∨ op = 22 ∨ op = 23 ∨ op = 24 ∨ op = 25 := by
  unfold kindOf at hk
  apply Classical.byContradiction
  intro hn
  simp only [not_or] at hn
  simp [hn] at hk
 rcases this with rfl | rfl | rfl | rfl | rfl | rfl | rfl | rfl | rfl | rfl | rfl | rfl | rfl | rfl | rfl <;>
  refine ⟨by simp [kindOf], hv, ?_, ?_, ?_, ?_, ?_, ?_⟩ <;> simp [kindOf] <;> (have := ha (by rfl) (by omega); simpa [most, mostL] using this)
theorem vmStep_i {p : Prog} (hp : MayP p) {t : Thr} (h : ThrI p t) (hs : t.state ≠ 9) : VmI p t (vmStep p t) := by
 have hfr := (h.live hs).1
 have htop := h.frs _ (top_mem hfr)
 have hfm := hp.code _ (at_in htop.1.1 htop.1.2)
 unfold vmStep
 simp only
 by_cases hf : (fetch p t).2 = false
 ·rw [if_pos hf]; exact vm_end (by omega) (by omega)
 rw [if_neg hf]
 split
 ·exact vm_end (by omega) (by omega)
 have hpc : (topF t).pc < (at' p.funcs (topF t).func).code.length := by
  unfold fetch at hf
  split at hf
  ·exact absurd rfl hf
  ·omega
 have hi : (fetch p t).1 = at' (at' p.funcs (topF t).func).code (topF t).pc := by
  unfold fetch
  rw [if_neg (by omega)]
 have hmay : mayI p (at' p.funcs (topF t).func) (fetch p t).1 = true := by
  rw [hi]; exact hfm.2.2.2 _ (at_in htop.2.1.1 hpc)
 have hj := jump_i (pc := (topF t).pc + 1) h hs (by have := htop.2.1.1; omega) (by omega)
 have hg := hj.trans (popN_i hj.i (by rw [hj.st]; exact hs) (needs (fetch p t).1.op))
 split
 ·rename_i hk
  refine .inr ⟨hg, kindOf_i hmay hk ?_⟩
  split
  ·exact kept_nth (popN_in hj.i.sks _).2 0
  ·omega
 ·refine act_i hp hg hs ?_ hmay
  unfold topF
  rw [popN_frames]
  exact congrArg (fun f => at' p.funcs f.func) (topF_jump hfr ((topF t).pc + 1))
end Go.Hb
end

section
namespace Go.Hb
open Go
def evens : List Int → List Int
 | [] => []
 | [x] => [x]
 | x :: _ :: l => x :: evens l
def rowOf (c : Cor) (r : Int) (k : Nat) : List Int :=
 if r = 3 then nth c.lockq k else if r = 4 then nth c.waitq k else if r = 5 then nth c.downq k else if r = 6 then evens (nth c.sendq k) else if r = 7 then nth c.recvq k else []
def nRows (p : Prog) (r : Int) : Nat := if r = 3 then p.mutexes.toNat else if r = 4 then p.conds.length else if r = 5 then p.semas.length else if r = 6 ∨ r = 7 then p.chans.length else 0
def must (p : Prog) (st on r : Int) (k : Nat) : Bool := decide (st = r ∧ on = k) || decide (st = 8 ∧ r = 7 ∧ (k : Int) ∈ at' p.choices on)
def want (p : Prog) (st on r : Int) (k : Nat) : Nat := if must p st on r k = true then 1 else 0
structure LenI (p : Prog) (c : Cor) : Prop where
 owners : c.owners.length = p.mutexes.toNat
 counts : c.counts.length = p.semas.length
 bufs : c.bufs.length = p.chans.length
 lockq : c.lockq.length = p.mutexes.toNat
 waitq : c.waitq.length = p.conds.length
 downq : c.downq.length = p.semas.length
 sendq : c.sendq.length = p.chans.length
 recvq : c.recvq.length = p.chans.length
structure OneI (p : Prog) (now : Int) (t : Thr) : Prop where
 rest : t.state = 0 ∨ t.state = 9 → t.on = 0
 sleep : t.state = 1 → now < t.on ∧ t.on ≤ 1073741824
 join : t.state = 2 → 0 ≤ t.on ∧ t.on < 1000
 on : 3 ≤ t.state → t.state ≤ 7 → 0 ≤ t.on ∧ t.on < nRows p t.state
 choice : t.state = 8 → 0 ≤ t.on ∧ t.on < p.choices.length
def JoinI (D : Nat → Int → Prop) (ts : List Thr) : Prop :=
 ∀ k, k < ts.length → (nth ts k).state = 2 → 0 ≤ (nth ts k).on ∧ (nth ts k).on < ts.length ∧ (nth ts k).on ≠ k ∧ ((at' ts (nth ts k).on).state ≠ 9 ∨ D k (nth ts k).on)
structure ChanI (p : Prog) (k : Nat) (b s r : List Int) : Prop where
 recv : r = [] ∨ (b = [] ∧ s = [])
 send : s = [] ∨ (b.length : Int) = nth p.chans k
 room : (b.length : Int) ≤ nth p.chans k
 bk : kept' b
 even : s.length % 2 = 0
 sk : ∀ i, i * 2 + 1 < s.length → -1073741824 ≤ nth s (i * 2 + 1) ∧ nth s (i * 2 + 1) ≤ 1073741824
structure ThingsI (p : Prog) (n : Nat) (c : Cor) : Prop where
 owners : ∀ k, k < c.owners.length → -1 ≤ nth c.owners k ∧ nth c.owners k < n
 counts : ∀ k, k < c.counts.length → 0 ≤ nth c.counts k ∧ nth c.counts k ≤ 1073741824
 mutex : ∀ k, k < c.owners.length → nth c.lockq k = [] ∨ nth c.owners k ≠ -1
 sema : ∀ k, k < c.counts.length → nth c.counts k = 0 ∨ nth c.downq k = []
 chan : ∀ k, k < p.chans.length → ChanI p k (nth c.bufs k) (nth c.sendq k) (nth c.recvq k)
structure Inv (p : Prog) (ex : Int) (D : Nat → Int → Prop) (c : Cor) : Prop where
 len : LenI p c
 now : 0 ≤ c.now ∧ c.now ≤ 1073741824
 nthr : 1 ≤ c.threads.length ∧ (c.threads.length : Int) ≤ p.threads
 thr : ∀ t, t < c.threads.length → ThrI p (nth c.threads t)
 one : ∀ t : Nat, t < c.threads.length → (t : Int) ≠ ex → OneI p c.now (nth c.threads t)
 exs : ∀ t : Nat, t < c.threads.length → (t : Int) = ex → 3 ≤ (nth c.threads t).state ∧ (nth c.threads t).state ≤ 8
 join : JoinI D c.threads
 mem : ∀ r k t, t ∈ rowOf c r k → 0 ≤ t ∧ t < c.threads.length
 cnt : ∀ (r : Int) (k t : Nat), k < nRows p r → t < c.threads.length → (rowOf c r k).count (t : Int) = if (t : Int) = ex then 0 else want p (nth c.threads t).state (nth c.threads t).on r k
 things : ThingsI p c.threads.length c
def noD (_ : Nat) (_ : Int) : Prop := False

theorem nth_set_gen {α : Type} [Enc α] (l : List α) (i k : Nat) (x : α) : nth (l.set i x) k = if i = k ∧ i < l.length then x else nth l k := by
 by_cases h : i = k
 ·subst h
  by_cases h2 : i < l.length
  ·rw [if_pos ⟨rfl, h2⟩, nth_set h2]
  ·rw [if_neg (fun h => h2 h.2), List.set_eq_of_length_le (by omega)]
 ·rw [if_neg (fun h' => h h'.1), nth_set_ne h]
theorem nth_out {α : Type} [Enc α] {l : List α} {k : Nat} (h : l.length ≤ k) : nth l k = Enc.dflt := by unfold nth; rw [List.getD_eq_getElem?_getD, List.getElem?_eq_none h]; rfl
theorem nth_app_left {α : Type} [Enc α] {l m : List α} {k : Nat} (h : k < l.length) : nth (l ++ m) k = nth l k := by simp [nth, List.getD, List.getElem?_append_left h]
theorem nth_app_len {α : Type} [Enc α] {l : List α} {x : α} : nth (l ++ [x]) l.length = x := by simp [nth, List.getD]
theorem at_set {α : Type} [Enc α] {l : List α} {t : Int} {x : α} (h0 : 0 ≤ t) (h1 : t < l.length) : at' (l.set t.toNat x) t = x := by unfold at'; exact nth_set (by omega) x
theorem evens_app : ∀ {l : List Int} (t v : Int), l.length % 2 = 0 → evens (l ++ [t, v]) = evens l ++ [t]
 | [], t, v, _ => rfl
 | [x], _, _, h => by simp at h
 | x :: y :: l, t, v, h => by
  have := evens_app (l := l) t v (by simp at h; omega)
  simp only [List.cons_append, evens, this]
theorem evens_len : ∀ {l : List Int}, l.length % 2 = 0 → l.length = 2 * (evens l).length
 | [], _ => rfl
 | [x], h => by simp at h
 | x :: y :: l, h => by
  have := evens_len (l := l) (by simp at h; omega)
  simp only [evens, List.length_cons]; omega
theorem evens_head {l : List Int} (h : 2 ≤ l.length) : evens l = nth l 0 :: evens (l.drop 2) := by
 match l, h with
 | x :: y :: l, _ => rfl
theorem head_nth {l : List Int} (h : 0 < l.length) : l = nth l 0 :: l.drop 1 := by
 cases l with
 | nil => simp at h
 | cons x l => rfl
theorem rowOf_lockq (c : Cor) (L : List (List Int)) (r : Int) (k : Nat) : rowOf { c with lockq := L } r k = if r = 3 then nth L k else rowOf c r k := by unfold rowOf; by_cases h3 : r = 3 <;> by_cases h4 : r = 4 <;> by_cases h5 : r = 5 <;> by_cases h6 : r = 6 <;> by_cases h7 : r = 7 <;> simp_all
theorem rowOf_waitq (c : Cor) (L : List (List Int)) (r : Int) (k : Nat) : rowOf { c with waitq := L } r k = if r = 4 then nth L k else rowOf c r k := by unfold rowOf; by_cases h3 : r = 3 <;> by_cases h4 : r = 4 <;> by_cases h5 : r = 5 <;> by_cases h6 : r = 6 <;> by_cases h7 : r = 7 <;> simp_all
theorem rowOf_downq (c : Cor) (L : List (List Int)) (r : Int) (k : Nat) : rowOf { c with downq := L } r k = if r = 5 then nth L k else rowOf c r k := by unfold rowOf; by_cases h3 : r = 3 <;> by_cases h4 : r = 4 <;> by_cases h5 : r = 5 <;> by_cases h6 : r = 6 <;> by_cases h7 : r = 7 <;> simp_all
theorem rowOf_sendq (c : Cor) (L : List (List Int)) (r : Int) (k : Nat) : rowOf { c with sendq := L } r k = if r = 6 then evens (nth L k) else rowOf c r k := by unfold rowOf; by_cases h3 : r = 3 <;> by_cases h4 : r = 4 <;> by_cases h5 : r = 5 <;> by_cases h6 : r = 6 <;> by_cases h7 : r = 7 <;> simp_all
theorem rowOf_recvq (c : Cor) (L : List (List Int)) (r : Int) (k : Nat) : rowOf { c with recvq := L } r k = if r = 7 then nth L k else rowOf c r k := by unfold rowOf; by_cases h3 : r = 3 <;> by_cases h4 : r = 4 <;> by_cases h5 : r = 5 <;> by_cases h6 : r = 6 <;> by_cases h7 : r = 7 <;> simp_all
theorem want0 {p : Prog} {st : Int} (h : st < 3 ∨ 8 < st) (on : Int) {r : Int} {k : Nat} (hk : k < nRows p r) : want p st on r k = 0 := by
 have hr : 3 ≤ r ∧ r ≤ 7 := by
  unfold nRows at hk
  repeat' split at hk
  all_goals omega
 unfold want must
 rw [if_neg]
 simp only [Bool.or_eq_true, decide_eq_true_eq, not_or]
 omega
theorem want_le (p : Prog) (st on r : Int) (k : Nat) : want p st on r k ≤ 1 := by unfold want; split <;> omega
theorem nRows_in {p : Prog} {r : Int} {k : Nat} (hk : k < nRows p r) : 3 ≤ r ∧ r ≤ 7 := by
 unfold nRows at hk
 repeat' split at hk
 all_goals omega
theorem want_at {p : Prog} {st on r : Int} {k : Nat} (hr : st ≠ 8) : want p st on r k = if st = r ∧ on = k then 1 else 0 := by
 unfold want must
 simp [hr]
theorem row_len : ∀ {n : Nat} {l : List Int}, (∀ t ∈ l, 0 ≤ t ∧ t < n) → (∀ t : Nat, t < n → l.count (t : Int) ≤ 1) → l.length ≤ n
 | 0, l, hm, _ => by
  cases l with
  | nil => simp
  | cons x l => have := hm x (by simp); omega
 | n + 1, l, hm, hc => by
  have h1 := row_len (n := n) (l := l.filter fun x => decide (x ≠ (n : Int))) (fun t ht => by
   rw [List.mem_filter] at ht
   have := hm t ht.1
   have h2 := ht.2
   simp at h2; omega) fun t ht => by
    have := hc t (by omega)
    rw [List.count_filter (by simp; omega)]; exact this
  have h2 := List.length_eq_countP_add_countP (fun x => decide (x ≠ (n : Int))) (l := l)
  rw [List.countP_eq_length_filter] at h2
  have h3 : l.countP (fun a => !decide (a ≠ (n : Int))) = l.count (n : Int) := by
   unfold List.count
   congr 1
   funext a
   by_cases e : a = n <;> simp [e]
  have h4 := hc n (by omega)
  have h5 : l.countP (fun a => decide ¬decide (a ≠ (n : Int)) = true) = l.count (n : Int) := by
   rw [← h3]
   congr 1
   funext a
   by_cases e : a = n <;> simp [e]
  omega
theorem Inv.cnt_le {p : Prog} {ex : Int} {D : Nat → Int → Prop} {c : Cor} (h : Inv p ex D c) {r : Int} {k : Nat} (hk : k < nRows p r) : (rowOf c r k).length ≤ c.threads.length :=
 row_len (fun t ht => h.mem r k t ht) fun t ht => by
  rw [h.cnt r k t hk ht]
  split
  ·omega
  ·exact want_le _ _ _ _ _
theorem Inv.rowsB {p : Prog} {ex : Int} {D : Nat → Int → Prop} {c : Cor} (h : Inv p ex D c) (hp : MayP p) {L : List (List Int)} {r : Int} (hL : ∀ k, nth L k = rowOf c r k) (hn : L.length = nRows p r) (h8 : L.length ≤ 8) : RowsB L :=
 ⟨by omega, fun l hl => by
  obtain ⟨k, hk, rfl⟩ := List.getElem_of_mem hl
  rw [← nth_eq hk, hL]
  have := h.cnt_le (r := r) (k := k) (by omega)
  have := h.nthr.2
  have := hp.threads.2
  omega⟩
theorem Inv.corB {p : Prog} {ex : Int} {D : Nat → Int → Prop} {c : Cor} (h : Inv p ex D c) (hp : MayP p) : CorB c := by
 have ht := h.nthr.2
 have ht2 := hp.threads.2
 have hl := h.len
 have hm := hp.mutexes
 have e1 := hl.owners; have e2 := hl.counts; have e3 := hl.bufs; have e4 := hl.lockq; have e5 := hl.waitq; have e6 := hl.downq; have e7 := hl.sendq; have e8 := hl.recvq
 have h1 := hp.conds.1; have h2 := hp.semas.1; have h3 := hp.chans.1
 refine ⟨by omega, by omega, by omega, ⟨by omega, fun l hl' => ?_⟩, h.rowsB hp (r := 3) (fun k => by simp [rowOf]) (by simp [nRows]; omega) (by omega), h.rowsB hp (r := 4) (fun k => by simp [rowOf]) (by simp [nRows]; omega) (by omega),
  h.rowsB hp (r := 5) (fun k => by simp [rowOf]) (by simp [nRows]; omega) (by omega), ⟨by omega, fun l hl' => ?_⟩, h.rowsB hp (r := 7) (fun k => by simp [rowOf]) (by simp [nRows]; omega) (by omega)⟩
 ·obtain ⟨k, hk, rfl⟩ := List.getElem_of_mem hl'
  rw [← nth_eq hk]
  have h4 := (h.things.chan k (by omega)).room
  have := hp.chans.2 (nth p.chans k) (nth_mem (by omega))
  omega
 ·obtain ⟨k, hk, rfl⟩ := List.getElem_of_mem hl'
  rw [← nth_eq hk]
  have h4 := evens_len (h.things.chan k (by omega)).even
  have h5 := h.cnt_le (r := 6) (k := k) (by simp [nRows]; omega)
  simp [rowOf] at h5
  omega
theorem Inv.change {p : Prog} {ex ex' : Int} {D D' : Nat → Int → Prop} {c c' : Cor} (h : Inv p ex D c) {t : Nat} {th : Thr} (ht : t < c.threads.length) (hth : c'.threads = c.threads.set t th) (hlen : LenI p c') (hnow : c'.now = c.now) (hI : ThrI p th)
  (hex : ex = -1 ∨ ex = t) (hex' : ex' = -1 ∨ ex' = t) (hone : ex' ≠ t → OneI p c.now th) (hexs : ex' = t → 3 ≤ th.state ∧ th.state ≤ 8) (hjoin : JoinI D' c'.threads)
  (hmem : ∀ r k u, u ∈ rowOf c' r k → u = t ∨ u ∈ rowOf c r k) (hoth : ∀ r k (u : Int), k < nRows p r → u ≠ t → (rowOf c' r k).count u = (rowOf c r k).count u)
  (hown : ∀ r k, k < nRows p r → (rowOf c' r k).count (t : Int) = if (t : Int) = ex' then 0 else want p th.state th.on r k) (hth2 : ThingsI p c.threads.length c') : Inv p ex' D' c' := by
 have hl : c'.threads.length = c.threads.length := by rw [hth, List.length_set]
 have hn : ∀ u, nth c'.threads u = if t = u then th else nth c.threads u := fun u => by
  rw [hth, nth_set_gen]
  by_cases e : t = u
  ·rw [if_pos ⟨e, ht⟩, if_pos e]
  ·rw [if_neg (fun h => e h.1), if_neg e]
 refine ⟨hlen, by rw [hnow]; exact h.now, by rw [hl]; exact h.nthr, fun u hu => ?_, fun u hu hue => ?_, fun u hu hue => ?_, hjoin, fun r k u hu => ?_, fun r k u hk hu => ?_, by rw [hl]; exact hth2⟩
 ·rw [hn]; split
  ·exact hI
  ·exact h.thr u (by omega)
 ·rw [hn, hnow]; split
  ·rename_i e; subst e; exact hone fun e => hue e.symm
  ·rename_i e; exact h.one u (by omega) (by omega)
 ·rw [hn]; split
  ·rename_i e; subst e; exact hexs hue.symm
  ·rename_i e; omega
 ·rw [hl]
  rcases hmem r k u hu with rfl | hu
  ·omega
  ·exact h.mem r k u hu
 ·rw [hn]
  by_cases e : t = u
  ·subst e; rw [if_pos rfl]; exact hown r k hk
  ·rw [if_neg e, hoth r k u hk (by omega), h.cnt r k u hk (by omega)]
   have e1 : (u : Int) ≠ ex := by omega
   have e2 : (u : Int) ≠ ex' := by omega
   rw [if_neg e1, if_neg e2]
theorem JoinI.set {D : Nat → Int → Prop} {ts : List Thr} (h : JoinI D ts) {t : Nat} {th : Thr} (h2 : th.state ≠ 2) (h9 : th.state ≠ 9 ∨ (nth ts t).state = 9) : JoinI D (ts.set t th) := fun k hk hs => by
 rw [List.length_set] at hk ⊢
 have hn : nth (ts.set t th) k = nth ts k ∨ nth (ts.set t th) k = th := by rw [nth_set_gen]; split <;> simp
 rcases hn with e | e
 ·rw [e] at hs ⊢
  obtain ⟨h1, h3, h4, h5⟩ := h k hk hs
  refine ⟨h1, h3, h4, ?_⟩
  unfold at' at h5 ⊢
  rw [nth_set_gen]
  split
  ·rename_i e'
   rcases h9 with h9 | h9
   ·exact .inl h9
   ·rw [← e'.1] at h5
    exact h5.imp (fun h => absurd h9 h) id
  ·exact h5
 ·rw [e] at hs; exact absurd hs h2
theorem JoinI.weak {D D' : Nat → Int → Prop} {ts : List Thr} (h : JoinI D ts) (hD : ∀ k on, k < ts.length → (nth ts k).state = 2 → (nth ts k).on = on → D k on → D' k on) : JoinI D' ts := fun k hk hs => by
 obtain ⟨h1, h2, h3, h4⟩ := h k hk hs
 exact ⟨h1, h2, h3, h4.imp id (hD k _ hk hs rfl)⟩
end Go.Hb
end

section
namespace Go.Hb
open Go
def StepT (p : Prog) (a b : Thr) : Prop := b = a ∨ ((a.state = 0 ∨ a.state = 2) ∧ ThrI p b ∧ (b.state = 0 ∨ b.state = 9) ∧ b.on = 0)
theorem StepT.trans {p : Prog} {a b c : Thr} (h : StepT p a b) (k : StepT p b c) : StepT p a c := by
 rcases h with rfl | h
 ·exact k
 ·rcases k with rfl | k
  ·exact .inr h
  ·exact .inr ⟨h.1, k.2⟩
structure Ev (p : Prog) (x y : Xs) : Prop where
 c : y.c = { x.c with threads := y.c.threads }
 len : y.c.threads.length = x.c.threads.length
 th : ∀ k, k < x.c.threads.length → StepT p (nth x.c.threads k) (nth y.c.threads k)
 p : y.p = x.p
 t : y.t = x.t
 woken : ∀ w ∈ y.woken, w ∈ x.woken ∨ (0 ≤ w ∧ w < x.c.threads.length)
theorem Ev.refl (p : Prog) (x : Xs) : Ev p x x := ⟨rfl, rfl, fun _ _ => .inl rfl, rfl, rfl, fun _ h => .inl h⟩
theorem Ev.trans {p : Prog} {x y z : Xs} (h : Ev p x y) (k : Ev p y z) : Ev p x z := by
 refine ⟨?_, k.len.trans h.len, fun i hi => (h.th i hi).trans (k.th i (by rw [h.len]; exact hi)), k.p.trans h.p, k.t.trans h.t, fun w hw => ?_⟩
 ·rw [k.c, h.c]
 ·rcases k.woken w hw with hw | hw
  ·exact h.woken w hw
  ·exact .inr (by rw [← h.len]; exact hw)
theorem countP_le_nth {f : Thr → Bool} : ∀ {l m : List Thr}, l.length = m.length → (∀ k, k < l.length → f (nth l k) = true → f (nth m k) = true) → l.countP f ≤ m.countP f
 | [], [], _, _ => Nat.le_refl _
 | [], _ :: _, h, _ => by simp at h
 | _ :: _, [], h, _ => by simp at h
 | a :: l, b :: m, h, k => by
  have ih := countP_le_nth (f := f) (l := l) (m := m) (by simpa using h) (fun i hi hf => by
   have := k (i + 1) (by simpa using hi) (by simpa [nth] using hf)
   simpa [nth] using this)
  have h0 := k 0 (by simp)
  simp only [nth, List.getD_cons_zero] at h0
  rw [List.countP_cons, List.countP_cons]
  by_cases ha : f a = true
  ·rw [if_pos ha, if_pos (h0 ha)]; omega
  ·rw [if_neg ha]; omega
theorem Ev.c2 {p : Prog} {x y : Xs} (h : Ev p x y) : count2 y.c ≤ count2 x.c := by
 refine countP_le_nth h.len fun k hk hf => ?_
 rcases h.th k (by rw [← h.len]; exact hk) with e | ⟨_, _, e, _⟩
 ·rw [e] at hf; exact hf
 ·unfold is2 at hf; simp at hf; omega
def AllI (p : Prog) (x : Xs) : Prop := ∀ k, k < x.c.threads.length → ThrI p (nth x.c.threads k)
theorem Ev.all {p : Prog} {x y : Xs} (h : Ev p x y) (ha : AllI p x) : AllI p y := fun k hk => by
 have hk' : k < x.c.threads.length := by rw [← h.len]; exact hk
 rcases h.th k hk' with e | ⟨_, e, _⟩
 ·rw [e]; exact ha k hk'
 ·exact e
theorem withT_nth {c : Cor} {t : Int} {th : Thr} (h0 : 0 ≤ t) (h1 : t < c.threads.length) (k : Nat) : nth (withT c t th).threads k = if t = (k : Int) then th else nth c.threads k := by
 show nth (c.threads.set t.toNat th) k = _
 rw [nth_set_gen]
 by_cases e : t = (k : Int)
 ·rw [if_pos ⟨by omega, by omega⟩, if_pos e]
 ·rw [if_neg (fun h => e (by omega)), if_neg e]
theorem ev_set {p : Prog} {x : Xs} {t : Int} {th : Thr} (h0 : 0 ≤ t) (h1 : t < x.c.threads.length) (hs : StepT p (at' x.c.threads t) th) : Ev p x { x with c := withT x.c t th } :=
 ⟨rfl, by show (x.c.threads.set _ _).length = _; rw [List.length_set], fun k hk => by
  show StepT p _ (nth (withT x.c t th).threads k)
  rw [withT_nth h0 h1]
  by_cases e : t = (k : Int)
  ·rw [if_pos e]; unfold at' at hs; rw [show k = t.toNat by omega]; exact hs
  ·rw [if_neg e]; exact .inl rfl, rfl, rfl, fun _ h => .inl h⟩
theorem ev_see {p : Prog} {x y : Xs} (h : Ev p x y) (k t n : Int) : Ev p x (seeX y k t n) := ⟨h.c, h.len, h.th, h.p, h.t, h.woken⟩
theorem zero_i {p : Prog} {t : Thr} (h : ThrI p t) (hs : t.state ≠ 9) : ThrI p { t with state := 0, on := 0 } :=
 ⟨by simp, h.code, h.fr, h.sk, h.frs, h.sks, fun h => by simp at h, fun _ => h.live hs⟩
def EndI (p : Prog) (n : Nat) : Prop := ∀ D x t code, 0 ≤ t → t < (x.c.threads.length : Int) → (at' x.c.threads t).state = 0 → AllI p x → count2 x.c < n → 0 ≤ code → code ≤ 6 → JoinI D x.c.threads →
 Ev p x (endX n x t code) ∧ JoinI D (endX n x t code).c.threads
theorem tell_i {p : Prog} {n : Nat} (hE : EndI p n) {D : Nat → Int → Prop} {x : Xs} {t : Int} {l : List Int} (h0 : 0 ≤ t) (h1 : t < x.c.threads.length) (hs : (at' x.c.threads t).state = 0) (ho : (at' x.c.threads t).on = 0) (ha : AllI p x) (hc : count2 x.c < n) (hj : JoinI D x.c.threads) :
  Ev p x (tellX n x t l) ∧ JoinI D (tellX n x t l).c.threads := by
 unfold tellX
 split
 ·rename_i hok
  have hg := thrTell_i (p := p) l (ha t.toNat (by omega)) (by show (at' x.c.threads t).state ≠ 9; omega) hok
  have hst : (thrTell (at' x.c.threads t) l).1.state = 0 := hg.st.trans hs
  refine ⟨ev_set h0 h1 (.inr ⟨.inl hs, hg.i, .inl hst, hg.on.trans ho⟩), hj.set (by omega) (.inl (by omega))⟩
 ·exact hE D x t 2 h0 h1 hs ha hc (by omega) (by omega) hj
theorem rest0_i {p : Prog} {D : Nat → Int → Prop} {x : Xs} {k : Nat} (h1 : k < x.c.threads.length) (hs : (nth x.c.threads k).state = 2) (ha : AllI p x) (hj : JoinI D x.c.threads) :
  Ev p x (restX { x with woken := x.woken ++ [(k : Int)] } k 0 0) ∧ JoinI (fun i on => D i on ∧ i ≠ k) (restX { x with woken := x.woken ++ [(k : Int)] } k 0 0).c.threads := by
 have h := ev_set (x := x) (t := k) (th := { nth x.c.threads k with state := 0, on := 0 }) (by omega) (by omega) (.inr ⟨.inr hs, zero_i (ha k h1) (by omega), .inl rfl, rfl⟩)
 refine ⟨⟨h.c, h.len, h.th, rfl, rfl, fun w hw => ?_⟩, ?_⟩
 ·rcases List.mem_append.1 hw with hw | hw
  ·exact .inl hw
  ·simp at hw; subst hw; exact .inr ⟨by omega, by omega⟩
 ·have hj2 : JoinI D (x.c.threads.set k { nth x.c.threads k with state := 0, on := 0 }) := hj.set (by simp) (.inl (by simp))
  refine JoinI.weak (ts := x.c.threads.set k { nth x.c.threads k with state := 0, on := 0 }) hj2 fun i on hi hs2 ho hd => ⟨hd, fun e => ?_⟩
  subst e
  rw [nth_set (by simpa using h1)] at hs2
  simp at hs2
theorem wake2_i {p : Prog} {n : Nat} (hE : EndI p n) {D : Nat → Int → Prop} {x : Xs} {k : Nat} {l : List Int} (h1 : k < x.c.threads.length) (hs : (nth x.c.threads k).state = 2) (ha : AllI p x) (hc : count2 x.c ≤ n) (hj : JoinI D x.c.threads) :
  Ev p x (wakeX n x k l) ∧ JoinI (fun i on => D i on ∧ i ≠ k) (wakeX n x k l).c.threads := by
 unfold wakeX
 rw [if_neg (by omega)]
 obtain ⟨hv, hj2⟩ := rest0_i h1 hs ha hj
 have hr := rest_c2 (x := { x with woken := x.woken ++ [(k : Int)] }) (t := k) 0 (st := 0) (by omega) (by omega) (by show (k : Int) < x.c.threads.length; omega)
 have hs' : (at' x.c.threads (k : Int)).state = 2 := hs
 simp only [hs', if_true] at hr
 have hat : at' (restX { x with woken := x.woken ++ [(k : Int)] } k 0 0).c.threads (k : Int) = { nth x.c.threads k with state := 0, on := 0 } := by
  show at' (x.c.threads.set (k : Int).toNat _) (k : Int) = _
  rw [at_set (by omega) (by omega)]; rfl
 have ht := tell_i hE (D := fun i on => D i on ∧ i ≠ k) (x := restX { x with woken := x.woken ++ [(k : Int)] } k 0 0) (t := k) (l := l) (by omega) (by rw [hv.len]; omega) (by rw [hat]) (by rw [hat]) (hv.all ha) (by omega) hj2
 exact ⟨hv.trans ht.1, ht.2⟩
theorem endL_i {p : Prog} {n : Nat} (hE : EndI p n) {code t : Int} {D : Nat → Int → Prop} : ∀ (ks : List Nat) (x : Xs), (∀ k ∈ ks, k < x.c.threads.length) → AllI p x → count2 x.c ≤ n → JoinI (fun k on => D k on ∨ (on = t ∧ k ∈ ks)) x.c.threads →
  Ev p x (endL n code t ks x) ∧ JoinI D (endL n code t ks x).c.threads
 | [], x, _, _, _, hj => by
  rw [endL]
  exact ⟨Ev.refl p x, hj.weak fun k on _ _ _ h => h.resolve_right (by simp)⟩
 | k :: ks, x, hk, ha, hc, hj => by
  rw [endL]
  by_cases hw : (nth x.c.threads k).state = 2 ∧ (nth x.c.threads k).on = t
  ·rw [if_pos hw]
   have h1 := wake2_i hE (l := [code]) (hk k (by simp)) hw.1 ha hc hj
   have h2 := endL_i hE (code := code) ks (wakeX n x k [code]) (fun j hj => by rw [h1.1.len]; exact hk j (by simp [hj])) (h1.1.all ha) (by have := h1.1.c2; omega) (h1.2.weak fun i on _ _ _ h => h.1.imp id fun h' => ⟨h'.1, by have := h'.2; simp at this; exact this.resolve_left h.2⟩)
   exact ⟨h1.1.trans h2.1, h2.2⟩
  ·rw [if_neg hw]
   refine endL_i hE ks x (fun j hj => hk j (by simp [hj])) ha hc (hj.weak fun i on hi hs ho h => h.imp id fun h' => ⟨h'.1, ?_⟩)
   rcases List.mem_cons.1 h'.2 with e | e
   ·subst e; exact absurd ⟨hs, ho.trans h'.1⟩ hw
   ·exact e
theorem end_i (p : Prog) : ∀ n, EndI p n
 | 0 => fun D x t code _ _ _ _ h => absurd h (by omega)
 | n + 1 => fun D x t code h0 h1 hs ha hc c0 c1 hj => by
  rw [endX_succ]
  have hv : Ev p x (end0 x t code) := ev_see (ev_set h0 h1 (.inr ⟨.inl hs, thrEnd_i p c0 c1, .inr rfl, rfl⟩)) 2 t code
  have hj2 : JoinI (fun k on => D k on ∨ (on = t ∧ k ∈ List.range (end0 x t code).c.threads.length)) (end0 x t code).c.threads := fun k hk hk2 => by
   have hn : nth (end0 x t code).c.threads k = if t = (k : Int) then thrEnd code else nth x.c.threads k := withT_nth h0 h1 k
   have hl := hv.len
   rw [hn] at hk2 ⊢
   by_cases e : t = (k : Int)
   ·rw [if_pos e] at hk2; simp [thrEnd] at hk2
   ·rw [if_neg e] at hk2 ⊢
    obtain ⟨q1, q2, q3, q4⟩ := hj k (by omega) hk2
    refine ⟨q1, by omega, q3, ?_⟩
    by_cases e2 : (nth x.c.threads k).on = t
    ·exact .inr (.inr ⟨e2, by simpa using hk⟩)
    ·have hn2 : at' (end0 x t code).c.threads (nth x.c.threads k).on = at' x.c.threads (nth x.c.threads k).on := by
      show nth (withT x.c t (thrEnd code)).threads _ = _
      rw [withT_nth h0 h1, if_neg (by omega)]; rfl
     rw [hn2]
     exact q4.imp id .inl
  have hk := count2_with (c := x.c) (x := thrEnd code) h0 h1
  have he : (thrEnd code).state ≠ 2 := by simp [thrEnd]
  rw [if_neg he] at hk
  have h2 := endL_i (end_i p n) (code := code) (t := t) (D := D) _ _ (fun k hk => by simpa using hk) (hv.all ha) (by show count2 (withT x.c t (thrEnd code)) ≤ n; omega) hj2
  exact ⟨hv.trans h2.1, h2.2⟩
theorem Inv.ev {p : Prog} {ex : Int} {D D' : Nat → Int → Prop} {x y : Xs} (h : Inv p ex D x.c) (hv : Ev p x y) (hj : JoinI D' y.c.threads) : Inv p ex D' y.c := by
 have hl := hv.len
 have hc := hv.c
 have key : ∀ k, k < x.c.threads.length → nth y.c.threads k = nth x.c.threads k ∨ ((k : Int) ≠ ex ∧ ((nth x.c.threads k).state = 0 ∨ (nth x.c.threads k).state = 2) ∧ ThrI p (nth y.c.threads k) ∧ ((nth y.c.threads k).state = 0 ∨ (nth y.c.threads k).state = 9) ∧ (nth y.c.threads k).on = 0) := fun k hk => by
  rcases hv.th k hk with e | e
  ·exact .inl e
  ·refine .inr ⟨fun e2 => ?_, e⟩
   have := h.exs k hk e2
   omega
 have hrow : ∀ r k, rowOf y.c r k = rowOf x.c r k := fun r k => by rw [hc]; rfl
 refine ⟨by rw [hc]; exact ⟨h.len.owners, h.len.counts, h.len.bufs, h.len.lockq, h.len.waitq, h.len.downq, h.len.sendq, h.len.recvq⟩, by rw [hc]; exact h.now, by rw [hl]; exact h.nthr, fun t ht => ?_, fun t ht hte => ?_, fun t ht hte => ?_, hj, fun r k t ht => ?_, fun r k t hk ht => ?_, ?_⟩
 ·rcases key t (by omega) with e | e
  ·rw [e]; exact h.thr t (by omega)
  ·exact e.2.2.1
 ·have hn : y.c.now = x.c.now := by rw [hc]
  rw [hn]
  rcases key t (by omega) with e | ⟨_, _, _, e, e2⟩
  ·rw [e]; exact h.one t (by omega) hte
  ·exact ⟨fun _ => e2, fun h => by omega, fun h => by omega, fun h _ => by omega, fun h => by omega⟩
 ·rcases key t (by omega) with e | e
  ·rw [e]; exact h.exs t (by omega) hte
  ·exact absurd hte e.1
 ·rw [hrow] at ht; rw [hl]; exact h.mem r k t ht
 ·rw [hrow, h.cnt r k t hk (by omega)]
  rcases key t (by omega) with e | ⟨e0, e1, _, e2, _⟩
  ·rw [e]
  ·rw [if_neg e0, if_neg e0, want0 (by omega) _ hk, want0 (by omega) _ hk]
 ·rw [hl, hc]
  have q := h.things
  exact ⟨q.owners, q.counts, q.mutex, q.sema, q.chan⟩
end Go.Hb
end

section
namespace Go.Hb
open Go
theorem row_set3 {c : Cor} {m : Nat} (hm : m < c.lockq.length) (l : List Int) (r : Int) (k : Nat) : rowOf { c with lockq := c.lockq.set m l } r k = if r = 3 ∧ k = m then l else rowOf c r k := by
 rw [rowOf_lockq, nth_set_gen]
 by_cases h : r = 3 <;> by_cases h2 : m = k <;> simp_all [rowOf, eq_comm]
theorem row_set4 {c : Cor} {m : Nat} (hm : m < c.waitq.length) (l : List Int) (r : Int) (k : Nat) : rowOf { c with waitq := c.waitq.set m l } r k = if r = 4 ∧ k = m then l else rowOf c r k := by
 rw [rowOf_waitq, nth_set_gen]
 by_cases h : r = 4 <;> by_cases h2 : m = k <;> simp_all [rowOf, eq_comm]
theorem row_set5 {c : Cor} {m : Nat} (hm : m < c.downq.length) (l : List Int) (r : Int) (k : Nat) : rowOf { c with downq := c.downq.set m l } r k = if r = 5 ∧ k = m then l else rowOf c r k := by
 rw [rowOf_downq, nth_set_gen]
 by_cases h : r = 5 <;> by_cases h2 : m = k <;> simp_all [rowOf, eq_comm]
theorem row_set6 {c : Cor} {m : Nat} (hm : m < c.sendq.length) (l : List Int) (r : Int) (k : Nat) : rowOf { c with sendq := c.sendq.set m l } r k = if r = 6 ∧ k = m then evens l else rowOf c r k := by
 rw [rowOf_sendq, nth_set_gen]
 by_cases h : r = 6 <;> by_cases h2 : m = k <;> simp_all [rowOf, eq_comm]
theorem row_set7 {c : Cor} {m : Nat} (hm : m < c.recvq.length) (l : List Int) (r : Int) (k : Nat) : rowOf { c with recvq := c.recvq.set m l } r k = if r = 7 ∧ k = m then l else rowOf c r k := by
 rw [rowOf_recvq, nth_set_gen]
 by_cases h : r = 7 <;> by_cases h2 : m = k <;> simp_all [rowOf, eq_comm]
section
variable {p : Prog} {ex : Int} {D : Nat → Int → Prop} {c c' : Cor}
theorem Inv.zero (h : Inv p ex D c) {t : Nat} (ht : t < c.threads.length) (h0 : (ex = -1 ∧ (nth c.threads t).state = 0) ∨ ex = t) {r : Int} {k : Nat} (hk : k < nRows p r) : (rowOf c r k).count (t : Int) = 0 := by
 rw [h.cnt r k t hk ht]
 rcases h0 with ⟨rfl, h0⟩ | rfl
 ·rw [if_neg (by omega), h0]; exact want0 (by omega) _ hk
 ·rw [if_pos rfl]
theorem Inv.enter (h : Inv p ex D c) {t : Nat} (ht : t < c.threads.length) (h0 : (ex = -1 ∧ (nth c.threads t).state = 0) ∨ ex = t) (h9 : (nth c.threads t).state ≠ 9) {r : Int} {k : Nat} (hk : k < nRows p r)
  (hrow : ∀ r' k', rowOf c' r' k' = if r' = r ∧ k' = k then rowOf c r k ++ [(t : Int)] else rowOf c r' k') (hth : c'.threads = c.threads.set t { nth c.threads t with state := r, on := k }) (hlen : LenI p c') (hnow : c'.now = c.now) (hI : ThingsI p c.threads.length c') : Inv p (-1) D c' := by
 have hr := nRows_in hk
 have hi := h.thr t ht
 refine h.change ht hth hlen hnow ⟨by simp; omega, hi.code, hi.fr, hi.sk, hi.frs, hi.sks, fun h => by simp at h; omega, fun _ => hi.live h9⟩ (h0.imp And.left id) (.inl rfl) (fun _ => ?_) (fun e => by omega) ?_ (fun r' k' u hu => ?_) (fun r' k' u hk' hu => ?_) (fun r' k' hk' => ?_) hI
 ·exact ⟨fun h => by simp at h; omega, fun h => by simp at h; omega, fun h => by simp at h; omega, fun _ _ => ⟨by simp, by simpa using hk⟩, fun h => by simp at h; omega⟩
 ·rw [hth]; exact h.join.set (by simp; omega) (.inl (by simp; omega))
 ·rw [hrow] at hu
  split at hu
  ·rename_i e
   rcases List.mem_append.1 hu with hu | hu
   ·rw [e.1, e.2]; exact .inr hu
   ·simp at hu; exact .inl hu
  ·exact .inr hu
 ·rw [hrow]
  split
  ·rename_i e
   rw [e.1, e.2, List.count_append, List.count_singleton]
   have : ((t : Int) == u) = false := by simpa using fun e => hu e.symm
   rw [this]; simp
  ·rfl
 ·rw [hrow, if_neg (show ¬ (t : Int) = -1 by omega), want_at (by simp; omega)]
  have hz := fun r k hk => h.zero ht h0 (r := r) (k := k) hk
  by_cases e : r' = r ∧ k' = k
  ·rw [if_pos e, List.count_append, hz r k hk, if_pos ⟨e.1.symm, by simp [e.2]⟩]; simp
  ·rw [if_neg e, hz r' k' hk', if_neg (fun h => e ⟨h.1.symm, by have := h.2; simp at this; omega⟩)]
theorem Inv.leave (h : Inv p (-1) D c) {t : Int} {rest : List Int} {r : Int} {k : Nat} (hk : k < nRows p r) (h7 : r ≠ 7) (hhd : rowOf c r k = t :: rest)
  (hrow : ∀ r' k', rowOf c' r' k' = if r' = r ∧ k' = k then rest else rowOf c r' k') (hth : c'.threads = c.threads) (hlen : LenI p c') (hnow : c'.now = c.now) (hI : ThingsI p c.threads.length c') :
  (0 ≤ t ∧ t < c.threads.length ∧ (at' c.threads t).state ≠ 9 ∧ (at' c.threads t).state ≠ 0) ∧ Inv p t D c' := by
 have hr := nRows_in hk
 have hm := h.mem r k t (by rw [hhd]; simp)
 obtain ⟨t, rfl⟩ : ∃ n : Nat, t = n := ⟨t.toNat, by omega⟩
 have ht : t < c.threads.length := by omega
 have hi := h.thr t ht
 have hc := h.cnt r k t hk ht
 rw [hhd, if_neg (by omega), List.count_cons_self] at hc
 have hw : (nth c.threads t).state = r ∧ (nth c.threads t).on = k := by
  unfold want must at hc
  split at hc
  ·rename_i e
   simp only [Bool.or_eq_true, decide_eq_true_eq] at e
   rcases e with e | e
   ·exact e
   ·exact absurd e.2.1 h7
  ·omega
 have hc0 : rest.count (t : Int) = 0 := by have := want_le p (nth c.threads t).state (nth c.threads t).on r k; omega
 refine ⟨⟨hm.1, hm.2, ?_, ?_⟩, h.change ht (th := nth c.threads t) ?_ hlen hnow hi (.inl rfl) (.inr rfl) (fun e => absurd rfl e) (fun _ => by rw [hw.1]; omega) (by rw [hth]; exact h.join) (fun r' k' u hu => ?_) (fun r' k' u hk' hu => ?_) (fun r' k' hk' => ?_) hI⟩
 ·show (nth c.threads t).state ≠ 9; rw [hw.1]; omega
 ·show (nth c.threads t).state ≠ 0; rw [hw.1]; omega
 ·rw [hth]; rw [nth_eq ht, List.set_getElem_self]
 ·rw [hrow] at hu
  split at hu
  ·rename_i e
   rw [e.1, e.2, hhd]; exact .inr (List.mem_cons_of_mem _ hu)
  ·exact .inr hu
 ·rw [hrow]
  split
  ·rename_i e
   rw [e.1, e.2, hhd, List.count_cons_of_ne (fun e => hu e.symm)]
  ·rfl
 ·rw [hrow, if_pos rfl]
  split
  ·exact hc0
  ·rename_i e
   rw [h.cnt r' k' t hk' ht, if_neg (by omega), want_at (by omega), if_neg (fun h => e ⟨by omega, by have := h.2; omega⟩)]
theorem Inv.cancel (h : Inv p (-1) D c) {t : Int} {k : Nat} (hk : k < nRows p 7) (hin : t ∈ nth c.recvq k) (hI : ThingsI p c.threads.length (cancelC c t)) :
  (0 ≤ t ∧ t < c.threads.length ∧ ((at' c.threads t).state = 7 ∨ (at' c.threads t).state = 8 ∧ (k : Int) ∈ at' p.choices (at' c.threads t).on)) ∧ Inv p t D (cancelC c t) := by
 have hm := h.mem 7 k t (by simpa [rowOf] using hin)
 obtain ⟨t, rfl⟩ : ∃ n : Nat, t = n := ⟨t.toNat, by omega⟩
 have ht : t < c.threads.length := by omega
 have hi := h.thr t ht
 have hc := h.cnt 7 k t hk ht
 have hpos : 0 < (rowOf c 7 k).count (t : Int) := List.count_pos_iff.2 (by simpa [rowOf] using hin)
 rw [if_neg (by omega)] at hc
 have hw : (nth c.threads t).state = 7 ∨ (nth c.threads t).state = 8 ∧ (k : Int) ∈ at' p.choices (nth c.threads t).on := by
  unfold want must at hc
  split at hc
  ·rename_i e
   simp only [Bool.or_eq_true, decide_eq_true_eq] at e
   exact e.imp And.left fun e => ⟨e.1, e.2.2⟩
  ·omega
 have hrow : ∀ r' k', rowOf (cancelC c t) r' k' = if r' = 7 then (rowOf c 7 k').filter (fun x => decide (x ≠ (t : Int))) else rowOf c r' k' := fun r' k' => by
  unfold cancelC
  rw [rowOf_recvq]
  by_cases e : r' = 7
  ·rw [if_pos e, if_pos e]
   have e7 : rowOf c 7 k' = nth c.recvq k' := by simp [rowOf]
   rw [e7]
   by_cases hk2 : k' < c.recvq.length
   ·rw [nth_eq (by simpa using hk2), nth_eq hk2]; simp
   ·rw [nth_out (by simp; omega), nth_out (by omega)]; rfl
  ·rw [if_neg e, if_neg e]
 have hlen : LenI p (cancelC c t) := ⟨h.len.owners, h.len.counts, h.len.bufs, h.len.lockq, h.len.waitq, h.len.downq, h.len.sendq, by show (c.recvq.map _).length = _; rw [List.length_map]; exact h.len.recvq⟩
 refine ⟨⟨hm.1, hm.2, hw⟩, h.change ht (th := nth c.threads t) ?_ hlen rfl hi (.inl rfl) (.inr rfl) (fun e => absurd rfl e) (fun _ => by rcases hw with hw | hw <;> omega) h.join (fun r' k' u hu => ?_) (fun r' k' u hk' hu => ?_) (fun r' k' hk' => ?_) hI⟩
 ·show c.threads = _; rw [nth_eq ht, List.set_getElem_self]
 ·rw [hrow] at hu
  split at hu
  ·rename_i e
   rw [e]; exact .inr (List.mem_filter.1 hu).1
  ·exact .inr hu
 ·rw [hrow]
  split
  ·rename_i e
   rw [e, List.count_filter (by simpa using hu)]
  ·rfl
 ·rw [hrow, if_pos rfl]
  split
  ·exact List.count_eq_zero.2 fun h => by simp [List.mem_filter] at h
  ·rename_i e
   rw [h.cnt r' k' t hk' ht, if_neg (by omega)]
   unfold want must
   rw [if_neg]
   simp only [Bool.or_eq_true, decide_eq_true_eq, not_or]
   have := nRows_in hk'
   exact ⟨fun h => by rcases hw with hw | hw <;> omega, fun h => e h.2.1⟩
theorem Inv.wake {t : Int} (h : Inv p t D c) (h0 : 0 ≤ t) (h1 : t < c.threads.length) : Inv p (-1) D (withT c t { at' c.threads t with state := 0, on := 0 }) := by
 obtain ⟨t, rfl⟩ : ∃ n : Nat, t = n := ⟨t.toNat, by omega⟩
 have ht : t < c.threads.length := by omega
 have hex := h.exs t ht rfl
 refine h.change ht (th := { nth c.threads t with state := 0, on := 0 }) rfl ⟨h.len.owners, h.len.counts, h.len.bufs, h.len.lockq, h.len.waitq, h.len.downq, h.len.sendq, h.len.recvq⟩ rfl (zero_i (h.thr t ht) (by omega)) (.inr rfl) (.inl rfl)
  (fun _ => ⟨fun _ => rfl, fun h => by simp at h, fun h => by simp at h, fun h _ => by simp at h, fun h => by simp at h⟩) (fun e => by omega) (h.join.set (by simp) (.inl (by simp))) (fun r' k' u hu => .inr hu) (fun r' k' u hk' hu => rfl) (fun r' k' hk' => ?_) ⟨h.things.owners, h.things.counts, h.things.mutex, h.things.sema, h.things.chan⟩
 rw [if_neg (by omega), want0 (by simp) _ hk']
 exact h.zero ht (.inr rfl) hk'
end
theorem Inv.all {p : Prog} {ex : Int} {D : Nat → Int → Prop} {x : Xs} (h : Inv p ex D x.c) : AllI p x := fun k hk => h.thr k hk
theorem Inv.c2 {p : Prog} {ex : Int} {D : Nat → Int → Prop} {c : Cor} (h : Inv p ex D c) (hp : MayP p) : count2 c < fu := by
 have h1 : count2 c ≤ c.threads.length := List.countP_le_length
 have h2 := h.nthr.2
 have h3 := hp.threads.2
 unfold fu; omega
end Go.Hb
end

section
namespace Go.Hb
open Go
section
variable {p : Prog} {n : Nat} {c : Cor}
theorem ThingsI.owner (h : ThingsI p n c) (m : Nat) {t : Int} (h0 : 0 ≤ t) (h1 : t < n) : ThingsI p n { c with owners := c.owners.set m t } := by
 refine ⟨fun k hk => ?_, h.counts, fun k hk => ?_, h.sema, h.chan⟩
 ·simp at hk; show -1 ≤ nth (c.owners.set m t) k ∧ nth (c.owners.set m t) k < n
  rw [nth_set_gen]; split
  ·omega
  ·exact h.owners k hk
 ·simp at hk; show _ ∨ nth (c.owners.set m t) k ≠ -1
  rw [nth_set_gen]; split
  ·right; omega
  ·exact h.mutex k hk
theorem ThingsI.lockset (h : ThingsI p n c) (m : Nat) (l : List Int) (ho : nth c.owners m ≠ -1) : ThingsI p n { c with lockq := c.lockq.set m l } := by
 refine ⟨h.owners, h.counts, fun k hk => ?_, h.sema, h.chan⟩
 show nth (c.lockq.set m l) k = [] ∨ _
 rw [nth_set_gen]; split
 ·rename_i e; rw [← e.1]; exact .inr ho
 ·exact h.mutex k hk
theorem ThingsI.free (h : ThingsI p n c) (m : Nat) (ho : nth c.lockq m = []) : ThingsI p n { c with owners := c.owners.set m (-1) } := by
 refine ⟨fun k hk => ?_, h.counts, fun k hk => ?_, h.sema, h.chan⟩
 ·simp at hk; show -1 ≤ nth (c.owners.set m (-1)) k ∧ nth (c.owners.set m (-1)) k < n
  rw [nth_set_gen]; split
  ·omega
  ·exact h.owners k hk
 ·simp at hk; show _ ∨ nth (c.owners.set m (-1)) k ≠ -1
  rw [nth_set_gen]; split
  ·rename_i e; rw [← e.1]; exact .inl ho
  ·exact h.mutex k hk
theorem ThingsI.waits (h : ThingsI p n c) (W : List (List Int)) : ThingsI p n { c with waitq := W } := ⟨h.owners, h.counts, h.mutex, h.sema, h.chan⟩
theorem ThingsI.thr (h : ThingsI p n c) (T : List Thr) : ThingsI p n { c with threads := T } := ⟨h.owners, h.counts, h.mutex, h.sema, h.chan⟩
theorem ThingsI.more (h : ThingsI p n c) {m : Nat} (hm : n ≤ m) : ThingsI p m c := ⟨fun k hk => by have := h.owners k hk; omega, h.counts, h.mutex, h.sema, h.chan⟩
theorem ThingsI.downset (h : ThingsI p n c) (m : Nat) (l : List Int) (ho : nth c.counts m = 0) : ThingsI p n { c with downq := c.downq.set m l } := by
 refine ⟨h.owners, h.counts, h.mutex, fun k hk => ?_, h.chan⟩
 show _ ∨ nth (c.downq.set m l) k = []
 rw [nth_set_gen]; split
 ·rename_i e; rw [← e.1]; exact .inl ho
 ·exact h.sema k hk
theorem ThingsI.count (h : ThingsI p n c) (m : Nat) {v : Int} (h0 : 0 ≤ v) (h1 : v ≤ 1073741824) (ho : v = 0 ∨ nth c.downq m = []) : ThingsI p n { c with counts := c.counts.set m v } := by
 refine ⟨h.owners, fun k hk => ?_, h.mutex, fun k hk => ?_, h.chan⟩
 ·simp at hk; show 0 ≤ nth (c.counts.set m v) k ∧ nth (c.counts.set m v) k ≤ _
  rw [nth_set_gen]; split
  ·omega
  ·exact h.counts k hk
 ·simp at hk; show nth (c.counts.set m v) k = 0 ∨ _
  rw [nth_set_gen]; split
  ·rename_i e; rw [← e.1]; exact ho
  ·exact h.sema k hk
theorem ThingsI.chans (h : ThingsI p n c) {B S R : List (List Int)} (hk : ∀ k, k < p.chans.length → (nth B k = nth c.bufs k ∧ nth S k = nth c.sendq k ∧ nth R k = nth c.recvq k) ∨ ChanI p k (nth B k) (nth S k) (nth R k)) : ThingsI p n { c with bufs := B, sendq := S, recvq := R } := by
 refine ⟨h.owners, h.counts, h.mutex, h.sema, fun k hk' => ?_⟩
 show ChanI p k (nth B k) (nth S k) (nth R k)
 rcases hk k hk' with ⟨e1, e2, e3⟩ | e
 ·rw [e1, e2, e3]; exact h.chan k hk'
 ·exact e
end
section
variable {p : Prog} {c : Cor}
theorem LenI.owners' (h : LenI p c) (m : Nat) (x : Int) : LenI p { c with owners := c.owners.set m x } := ⟨by simpa using h.owners, h.counts, h.bufs, h.lockq, h.waitq, h.downq, h.sendq, h.recvq⟩
theorem LenI.counts' (h : LenI p c) (m : Nat) (x : Int) : LenI p { c with counts := c.counts.set m x } := ⟨h.owners, by simpa using h.counts, h.bufs, h.lockq, h.waitq, h.downq, h.sendq, h.recvq⟩
theorem LenI.lockq' (h : LenI p c) (m : Nat) (x : List Int) : LenI p { c with lockq := c.lockq.set m x } := ⟨h.owners, h.counts, h.bufs, by simpa using h.lockq, h.waitq, h.downq, h.sendq, h.recvq⟩
theorem LenI.waitq' (h : LenI p c) (m : Nat) (x : List Int) : LenI p { c with waitq := c.waitq.set m x } := ⟨h.owners, h.counts, h.bufs, h.lockq, by simpa using h.waitq, h.downq, h.sendq, h.recvq⟩
theorem LenI.downq' (h : LenI p c) (m : Nat) (x : List Int) : LenI p { c with downq := c.downq.set m x } := ⟨h.owners, h.counts, h.bufs, h.lockq, h.waitq, by simpa using h.downq, h.sendq, h.recvq⟩
theorem LenI.bufs' (h : LenI p c) (m : Nat) (x : List Int) : LenI p { c with bufs := c.bufs.set m x } := ⟨h.owners, h.counts, by simpa using h.bufs, h.lockq, h.waitq, h.downq, h.sendq, h.recvq⟩
theorem LenI.sendq' (h : LenI p c) (m : Nat) (x : List Int) : LenI p { c with sendq := c.sendq.set m x } := ⟨h.owners, h.counts, h.bufs, h.lockq, h.waitq, h.downq, by simpa using h.sendq, h.recvq⟩
theorem LenI.recvq' (h : LenI p c) (m : Nat) (x : List Int) : LenI p { c with recvq := c.recvq.set m x } := ⟨h.owners, h.counts, h.bufs, h.lockq, h.waitq, h.downq, h.sendq, by simpa using h.recvq⟩
theorem LenI.thr (h : LenI p c) (T : List Thr) : LenI p { c with threads := T } := ⟨h.owners, h.counts, h.bufs, h.lockq, h.waitq, h.downq, h.sendq, h.recvq⟩
end
theorem Inv.same {p : Prog} {ex : Int} {D : Nat → Int → Prop} {c c' : Cor} (h : Inv p ex D c) (hth : c'.threads = c.threads) (hnow : c'.now = c.now) (hlen : LenI p c') (hrow : ∀ r k, rowOf c' r k = rowOf c r k) (hI : ThingsI p c.threads.length c') : Inv p ex D c' :=
 ⟨hlen, by rw [hnow]; exact h.now, by rw [hth]; exact h.nthr, by rw [hth]; exact h.thr, by rw [hth, hnow]; exact h.one, by rw [hth]; exact h.exs, by rw [hth]; exact h.join, fun r k t ht => by rw [hth]; rw [hrow] at ht; exact h.mem r k t ht, fun r k t hk ht => by rw [hth] at ht ⊢; rw [hrow]; exact h.cnt r k t hk ht, by rw [hth]; exact hI⟩
structure Res (p : Prog) (x y : Xs) : Prop where
 inv : Inv p (-1) noD y.c
 p : y.p = x.p
 t : y.t = x.t
 woken : ∀ w ∈ y.woken, w ∈ x.woken ∨ (0 ≤ w ∧ w < y.c.threads.length)
 len : x.c.threads.length ≤ y.c.threads.length
theorem Res.refl {p : Prog} {x : Xs} (h : Inv p (-1) noD x.c) : Res p x x := ⟨h, rfl, rfl, fun _ h => .inl h, Nat.le_refl _⟩
theorem Res.trans {p : Prog} {x y z : Xs} (h : Res p x y) (k : Res p y z) : Res p x z := ⟨k.inv, k.p.trans h.p, k.t.trans h.t, fun w hw => by
 rcases k.woken w hw with hw | hw
 ·rcases h.woken w hw with hw | hw
  ·exact .inl hw
  ·have := k.len; exact .inr (by omega)
 ·exact .inr hw, Nat.le_trans h.len k.len⟩
theorem Res.of_ev {p : Prog} {x y : Xs} (h : Inv p (-1) noD x.c) (hv : Ev p x y) (hj : JoinI noD y.c.threads) : Res p x y :=
 ⟨h.ev hv hj, hv.p, hv.t, by rw [hv.len]; exact hv.woken, Nat.le_of_eq hv.len.symm⟩
structure Run (p : Prog) (x : Xs) : Prop where
 inv : Inv p (-1) noD x.c
 p : x.p = p
 t : 0 ≤ x.t ∧ x.t < x.c.threads.length
 st : (at' x.c.threads x.t).state = 0
theorem Run.on {p : Prog} {x : Xs} (h : Run p x) : (at' x.c.threads x.t).on = 0 := (h.inv.one x.t.toNat (by have := h.t; omega) (by have := h.t; omega)).rest (.inl h.st)
theorem end_r {p : Prog} (hp : MayP p) {x : Xs} (h : Run p x) {code : Int} (h0 : 0 ≤ code) (h1 : code ≤ 6) : Res p x (endF x x.t code) := by
 have := end_i p fu noD x x.t code h.t.1 h.t.2 h.st h.inv.all (h.inv.c2 hp) h0 h1 h.inv.join
 exact .of_ev h.inv this.1 this.2
theorem tell_r {p : Prog} (hp : MayP p) {x : Xs} (h : Run p x) (l : List Int) : Res p x (tellF x x.t l) := by
 have := tell_i (end_i p fu) (D := noD) (l := l) h.t.1 h.t.2 h.st h.on h.inv.all (h.inv.c2 hp) h.inv.join
 exact .of_ev h.inv this.1 this.2
theorem see_r {p : Prog} {x : Xs} (h : Inv p (-1) noD x.c) (k t n : Int) : Res p x (seeX x k t n) := ⟨h, rfl, rfl, fun _ h => .inl h, Nat.le_refl _⟩
theorem wake_r {p : Prog} (hp : MayP p) {x : Xs} {t : Int} (h : Inv p t noD x.c) (h0 : 0 ≤ t) (h1 : t < x.c.threads.length) (l : List Int) : Res p x (wakeF x t l) := by
 unfold wakeF wakeX
 rw [if_neg (by omega)]
 have hw := h.wake h0 h1
 have hl := rest_len { x with woken := x.woken ++ [t] } t 0 0
 have hat : at' (restX { x with woken := x.woken ++ [t] } t 0 0).c.threads t = { at' x.c.threads t with state := 0, on := 0 } := at_set h0 h1
 have hinv : Inv p (-1) noD (restX { x with woken := x.woken ++ [t] } t 0 0).c := hw
 have := tell_i (end_i p fu) (D := noD) (x := restX { x with woken := x.woken ++ [t] } t 0 0) (t := t) (l := l) h0 (by rw [hl]; exact h1) (by rw [hat]) (by rw [hat]) hinv.all (hinv.c2 hp) hinv.join
 have hr : Res p (restX { x with woken := x.woken ++ [t] } t 0 0) _ := .of_ev hinv this.1 this.2
 refine ⟨hr.inv, hr.p, hr.t, fun w hw => ?_, by have := hr.len; rw [hl] at this; exact this⟩
 rcases hr.woken w hw with hw | hw
 ·rcases List.mem_append.1 hw with hw | hw
  ·exact .inl hw
  ·simp at hw; subst hw
   have := hr.len
   rw [hl] at this
   have : x.c.threads.length ≤ (tellX fu (restX { x with woken := x.woken ++ [w] } w 0 0) w l).c.threads.length := this
   exact .inr ⟨h0, by omega⟩
 ·exact .inr hw
theorem wakeF_nil (x : Xs) {t : Int} (h0 : 0 ≤ t) (h1 : t < x.c.threads.length) : wakeF x t [] = { x with woken := x.woken ++ [t], c := withT x.c t { at' x.c.threads t with state := 0, on := 0 } } := by
 unfold wakeF wakeX
 rw [if_neg (by omega)]
 unfold tellX thrTell
 rw [if_pos rfl]
 have hat : at' (restX { x with woken := x.woken ++ [t] } t 0 0).c.threads t = { at' x.c.threads t with state := 0, on := 0 } := at_set h0 h1
 rw [hat]
 unfold restX withT
 simp
theorem wakeF_no (x : Xs) {t : Int} (h0 : t < 0) (l : List Int) : wakeF x t l = x := by unfold wakeF wakeX; rw [if_pos h0]
end Go.Hb
end

section
namespace Go.Hb
open Go
theorem spawn_run {x : Xs} (hp : MayP x.p) (h : Run x.p x) {f : Int} (h0 : 0 ≤ f) (h1 : f < x.p.funcs.length) (hlt : ¬ x.p.threads ≤ (x.c.threads.length : Int)) :
  Run x.p (seeX { x with c := { x.c with threads := x.c.threads ++ [thrNew x.p f] }, woken := x.woken ++ [(x.c.threads.length : Int)] } 1 x.t x.c.threads.length) ∧ Inv x.p (-1) noD { x.c with threads := x.c.threads ++ [thrNew x.p f] } := by
 have hn := thrNew_i hp h0 h1
 have hlen : (x.c.threads ++ [thrNew x.p f]).length = x.c.threads.length + 1 := by simp
 have hnl : ∀ {k}, k < x.c.threads.length → nth (x.c.threads ++ [thrNew x.p f]) k = nth x.c.threads k := fun hk => nth_app_left hk
 have key : ∀ {k}, k < (x.c.threads ++ [thrNew x.p f]).length → k < x.c.threads.length ∨ (k = x.c.threads.length ∧ nth (x.c.threads ++ [thrNew x.p f]) k = thrNew x.p f) := fun {k} hk => by
  by_cases e : k < x.c.threads.length
  ·exact .inl e
  ·have e : k = x.c.threads.length := by omega
   exact .inr ⟨e, by rw [e]; exact nth_app_len⟩
 have hinv : Inv x.p (-1) noD { x.c with threads := x.c.threads ++ [thrNew x.p f] } := by
  have hi := h.inv
  refine ⟨hi.len.thr _, hi.now, ⟨by show 1 ≤ (x.c.threads ++ _).length; omega, by show ((x.c.threads ++ _).length : Int) ≤ _; omega⟩, fun t ht => ?_, fun t ht hte => ?_, fun t ht hte => by omega, fun k hk hs => ?_, fun r k t ht => ?_, fun r k t hk ht => ?_, ?_⟩
  ·show ThrI x.p (nth (x.c.threads ++ _) t)
   rcases key ht with e | e
   ·rw [hnl e]; exact hi.thr t e
   ·rw [e.2]; exact hn
  ·show OneI x.p x.c.now (nth (x.c.threads ++ _) t)
   rcases key ht with e | e
   ·rw [hnl e]; exact hi.one t e hte
   ·rw [e.2]; exact ⟨fun _ => rfl, fun h => by simp [thrNew] at h, fun h => by simp [thrNew] at h, fun h => by simp [thrNew] at h, fun h => by simp [thrNew] at h⟩
  ·rcases key hk with e | e
   ·rw [hnl e] at hs ⊢
    obtain ⟨q1, q2, q3, q4⟩ := hi.join k e hs
    refine ⟨q1, by rw [hlen]; omega, q3, ?_⟩
    unfold at' at q4 ⊢
    rw [hnl (by omega)]; exact q4
   ·rw [e.2] at hs; simp [thrNew] at hs
  ·have := hi.mem r k t ht
   show 0 ≤ t ∧ t < ((x.c.threads ++ [thrNew x.p f]).length : Int)
   omega
  ·show (rowOf x.c r k).count (t : Int) = if (t : Int) = -1 then 0 else want x.p (nth (x.c.threads ++ _) t).state (nth (x.c.threads ++ _) t).on r k
   rcases key ht with e | e
   ·rw [hnl e]; exact hi.cnt r k t hk e
   ·rw [e.2, if_neg (by omega), want0 (by simp [thrNew]) _ hk]
    refine List.count_eq_zero.2 fun hm => ?_
    have := hi.mem r k t hm
    omega
  ·show ThingsI x.p (x.c.threads ++ [thrNew x.p f]).length _
   exact (hi.things.more (by omega)).thr _
 have hx2 : Run x.p (seeX { x with c := { x.c with threads := x.c.threads ++ [thrNew x.p f] }, woken := x.woken ++ [(x.c.threads.length : Int)] } 1 x.t x.c.threads.length) := by
  refine ⟨hinv, h.p, ⟨h.t.1, by show x.t < ((x.c.threads ++ [thrNew x.p f]).length : Int); have := h.t.2; omega⟩, ?_⟩
  show (nth (x.c.threads ++ _) x.t.toNat).state = 0
  rw [hnl (by have := h.t; omega)]; exact h.st
 exact ⟨hx2, hinv⟩
theorem spawn_r {p : Prog} (hp : MayP p) {x : Xs} (h : Run p x) {f : Int} (h0 : 0 ≤ f) (h1 : f < p.funcs.length) : Res p x (spawnX x f) := by
 obtain e : x.p = p := h.p
 subst e
 unfold spawnX
 split
 ·have hs := see_r h.inv 1 x.t (-1)
  exact hs.trans (tell_r hp (x := seeX x 1 x.t (-1)) ⟨h.inv, h.p, h.t, h.st⟩ [-1])
 ·rename_i hlt
  have hlen : (x.c.threads ++ [thrNew x.p f]).length = x.c.threads.length + 1 := by simp
  have hx2 := (spawn_run hp h h0 h1 hlt).1
  have ht := tell_r hp hx2 [(x.c.threads.length : Int)]
  refine ⟨ht.inv, ht.p.trans rfl, ht.t.trans rfl, fun w hw => ?_, ?_⟩
  ·rcases ht.woken w hw with hw | hw
   ·rcases List.mem_append.1 hw with hw | hw
    ·exact .inl hw
    ·simp at hw; subst hw
     have hl2 := ht.len
     have hl3 : (x.c.threads ++ [thrNew x.p f]).length ≤ (tellF (seeX { x with c := { x.c with threads := x.c.threads ++ [thrNew x.p f] }, woken := x.woken ++ [(x.c.threads.length : Int)] } 1 x.t x.c.threads.length) x.t [(x.c.threads.length : Int)]).c.threads.length := hl2
     exact .inr ⟨by omega, by omega⟩
   ·exact .inr hw
  ·have hl3 : (x.c.threads ++ [thrNew x.p f]).length ≤ _ := ht.len
   have : x.c.threads.length ≤ (x.c.threads ++ [thrNew x.p f]).length := by omega
   exact Nat.le_trans this hl3
theorem run_nat {p : Prog} {x : Xs} (h : Run p x) : x.t.toNat < x.c.threads.length ∧ ((x.t.toNat : Nat) : Int) = x.t ∧ (nth x.c.threads x.t.toNat).state = 0 := ⟨by have := h.t; omega, by have := h.t; omega, h.st⟩
theorem run_in {p : Prog} {x : Xs} (h : Run p x) : ThrI p (nth x.c.threads x.t.toNat) := h.inv.thr _ (run_nat h).1
theorem runs_zero {p : Prog} {x : Xs} (h : Run p x) {r : Int} {k : Nat} (hk : k < nRows p r) : (rowOf x.c r k).count x.t = 0 := by
 have := h.inv.zero (run_nat h).1 (.inl ⟨rfl, h.st⟩) (r := r) (k := k) hk
 rwa [(run_nat h).2.1] at this
theorem rest_r {p : Prog} {x : Xs} (h : Run p x) {st on : Int} (hst : st = 1 ∧ x.c.now < on ∧ on ≤ 1073741824 ∨ st = 2 ∧ 0 ≤ on ∧ on < x.c.threads.length ∧ on ≠ x.t ∧ (at' x.c.threads on).state ≠ 9) (hp : MayP p) : Res p x (restX x x.t st on) := by
 obtain ⟨h1, h2, h3⟩ := run_nat h
 have hi := run_in h
 have h32 := hp.threads.2
 have hn := h.inv.nthr.2
 refine ⟨h.inv.change h1 (th := { nth x.c.threads x.t.toNat with state := st, on := on }) rfl (h.inv.len.thr _) rfl ⟨by simp; omega, hi.code, hi.fr, hi.sk, hi.frs, hi.sks, fun h => by simp at h; omega, fun _ => hi.live (by omega)⟩ (.inl rfl) (.inl rfl) (fun _ => ?_) (fun e => by omega) ?_ (fun r k u hu => .inr hu) (fun r k u _ _ => rfl) (fun r k hk => ?_) (h.inv.things.thr _), rfl, rfl, fun _ h => .inl h, Nat.le_of_eq (rest_len x x.t st on).symm⟩
 ·exact ⟨fun h => by simp at h; omega, fun h => by simp at h ⊢; omega, fun h => by simp at h ⊢; omega, fun h h' => by simp at h h'; omega, fun h => by simp at h; omega⟩
 ·rcases hst with hst | hst
  ·exact h.inv.join.set (by simp; omega) (.inl (by simp; omega))
  ·suffices hJ : JoinI noD (x.c.threads.set x.t.toNat { nth x.c.threads x.t.toNat with state := st, on := on }) from hJ
   intro k hk hs
   rw [List.length_set] at hk
   have goal : ∀ {on' : Int}, 0 ≤ on' → on' < x.c.threads.length → on' ≠ k → (at' x.c.threads on').state ≠ 9 → 0 ≤ on' ∧ on' < ((x.c.threads.set x.t.toNat { nth x.c.threads x.t.toNat with state := st, on := on }).length : Int) ∧ on' ≠ k ∧ ((at' (x.c.threads.set x.t.toNat { nth x.c.threads x.t.toNat with state := st, on := on }) on').state ≠ 9 ∨ noD k on') := fun {on'} q1 q2 q3 q4 => by
    rw [List.length_set]
    refine ⟨q1, q2, q3, .inl ?_⟩
    unfold at' at q4 ⊢
    rw [nth_set_gen]; split
    ·show st ≠ 9; omega
    ·exact q4
   have hn : nth (x.c.threads.set x.t.toNat { nth x.c.threads x.t.toNat with state := st, on := on }) k = if x.t.toNat = k ∧ x.t.toNat < x.c.threads.length then { nth x.c.threads x.t.toNat with state := st, on := on } else nth x.c.threads k := nth_set_gen _ _ _ _
   by_cases e : x.t.toNat = k ∧ x.t.toNat < x.c.threads.length
   ·rw [if_pos e] at hn
    rw [hn]
    exact goal hst.2.1 hst.2.2.1 (by simp; omega) hst.2.2.2.2
   ·rw [if_neg e] at hn
    rw [hn] at hs ⊢
    obtain ⟨q1, q2, q3, q4⟩ := h.inv.join k hk hs
    exact goal q1 q2 q3 (q4.resolve_right id)
 ·rw [if_neg (by omega), want0 (by simp; omega) _ hk, h2]
  exact runs_zero h hk
theorem join_r {p : Prog} (hp : MayP p) {x : Xs} (h : Run p x) (v : Int) : Res p x (joinX x v) := by
 unfold joinX
 split
 ·exact end_r hp h (by omega) (by omega)
 ·split
  ·exact tell_r hp h _
  ·exact rest_r h (.inr ⟨rfl, by omega, by omega, by omega, by assumption⟩) hp
theorem enter_r {p : Prog} {x : Xs} (h : Run p x) {c' : Cor} {r a : Int} (h0 : 0 ≤ a) (hk : a.toNat < nRows p r) (hrow : ∀ r' k', rowOf c' r' k' = if r' = r ∧ k' = a.toNat then rowOf x.c r a.toNat ++ [x.t] else rowOf x.c r' k')
  (hth : c'.threads = x.c.threads) (hlen : LenI p c') (hnow : c'.now = x.c.now) (hI : ThingsI p x.c.threads.length c') : Res p x (restX { x with c := c' } x.t r a) := by
 obtain ⟨h1, h2, h3⟩ := run_nat h
 refine ⟨h.inv.enter h1 (.inl ⟨rfl, h3⟩) (by omega) hk (c' := (restX { x with c := c' } x.t r a).c) (fun r' k' => ?_) ?_ (hlen.thr _) hnow (hI.thr _), rfl, rfl, fun _ h => .inl h, ?_⟩
 ·rw [h2]; exact hrow r' k'
 ·show c'.threads.set x.t.toNat { nth c'.threads x.t.toNat with state := r, on := a } = _
  rw [hth, show ((a.toNat : Nat) : Int) = a by omega]
 ·show x.c.threads.length ≤ (c'.threads.set _ _).length
  rw [List.length_set, hth]; exact Nat.le_refl _
theorem same_r {p : Prog} {x : Xs} (h : Inv p (-1) noD x.c) {c' : Cor} (hth : c'.threads = x.c.threads) (hnow : c'.now = x.c.now) (hlen : LenI p c') (hrow : ∀ r k, rowOf c' r k = rowOf x.c r k) (hI : ThingsI p x.c.threads.length c') : Res p x { x with c := c' } :=
 ⟨h.same hth hnow hlen hrow hI, rfl, rfl, fun _ h => .inl h, by show _ ≤ c'.threads.length; rw [hth]; exact Nat.le_refl _⟩
theorem lock_r {p : Prog} {x : Xs} (h : Run p x) {a : Int} (h0 : 0 ≤ a) (h1 : a < p.mutexes) : Res p x (if (lockC x.c a x.t).2 = true then { x with c := (lockC x.c a x.t).1 } else restX { x with c := (lockC x.c a x.t).1 } x.t 3 a) := by
 have hl := h.inv.len
 unfold lockC
 by_cases ho : 0 ≤ at' x.c.owners a
 ·simp only [if_pos ho, Bool.false_eq_true, if_false]
  refine enter_r h h0 (by simp [nRows]; omega) (fun r' k' => ?_) rfl (hl.lockq' _ _) rfl (h.inv.things.lockset _ _ (by show at' x.c.owners a ≠ -1; omega))
  rw [row_set3 (by rw [hl.lockq]; omega)]; simp [rowOf, at']
 ·simp only [if_neg ho, if_true]
  exact same_r h.inv rfl rfl (hl.owners' _ _) (fun _ _ => rfl) (h.inv.things.owner _ h.t.1 h.t.2)
theorem unlock_i {p : Prog} {c : Cor} {ex : Int} (hex : ex = -1) (h : Inv p ex noD c) {m t : Int} (h0 : 0 ≤ m) (h1 : m < p.mutexes) (ho : at' c.owners m = t) (ht : 0 ≤ t) :
  ((unlockC c m t).2.2 = 0) ∧ (unlockC c m t).1.threads = c.threads ∧ (((unlockC c m t).2.1 = -1 ∧ Inv p (-1) noD (unlockC c m t).1) ∨
   ((0 ≤ (unlockC c m t).2.1 ∧ (unlockC c m t).2.1 < c.threads.length ∧ (at' c.threads (unlockC c m t).2.1).state ≠ 9 ∧ (at' c.threads (unlockC c m t).2.1).state ≠ 0) ∧ Inv p (unlockC c m t).2.1 noD (unlockC c m t).1)) := by
 subst hex
 have hl := h.len
 unfold unlockC
 rw [if_neg (by omega)]
 by_cases hq : 0 < (at' c.lockq m).length
 ·simp only [if_pos hq]
  refine ⟨trivial, trivial, .inr ?_⟩
  have hhd : rowOf c 3 m.toNat = nth (at' c.lockq m) 0 :: (at' c.lockq m).drop 1 := by
   show nth c.lockq m.toNat = _
   exact head_nth hq
  have hmem := h.mem 3 m.toNat (nth (at' c.lockq m) 0) (by rw [hhd]; simp)
  have hlt : m.toNat < c.owners.length := by rw [hl.owners]; omega
  have hI : ThingsI p c.threads.length { c with owners := c.owners.set m.toNat (nth (at' c.lockq m) 0), lockq := c.lockq.set m.toNat ((at' c.lockq m).drop 1) } :=
   (h.things.owner m.toNat hmem.1 hmem.2).lockset m.toNat _ (by show nth (c.owners.set _ _) _ ≠ -1; rw [nth_set hlt]; omega)
  exact h.leave (r := 3) (k := m.toNat) (by simp [nRows]; omega) (by omega) hhd (fun r' k' => by
   show rowOf { c with lockq := c.lockq.set m.toNat _ } r' k' = _
   rw [row_set3 (by rw [hl.lockq]; omega)]) rfl ((hl.owners' _ _).lockq' _ _) rfl hI
 ·simp only [if_neg hq]
  have hq0 : nth c.lockq m.toNat = [] := List.length_eq_zero_iff.1 (by unfold at' at hq; omega)
  exact ⟨trivial, trivial, .inl ⟨trivial, h.same rfl rfl (hl.owners' _ _) (fun _ _ => rfl) (h.things.free _ hq0)⟩⟩
theorem unlock_r {p : Prog} (hp : MayP p) {x : Xs} (h : Run p x) {a : Int} (h0 : 0 ≤ a) (h1 : a < p.mutexes) : Res p x (if (unlockC x.c a x.t).2.2 = 0 then wakeF { x with c := (unlockC x.c a x.t).1 } (unlockC x.c a x.t).2.1 [] else endF x x.t 4) := by
 by_cases ho : at' x.c.owners a = x.t
 ·obtain ⟨e1, e2, e3⟩ := unlock_i rfl h.inv h0 h1 ho h.t.1
  rw [if_pos e1]
  rcases e3 with ⟨e3, e4⟩ | ⟨e3, e4⟩
  ·rw [e3, wakeF_no _ (by omega)]
   exact ⟨e4, rfl, rfl, fun _ h => .inl h, by show _ ≤ (unlockC x.c a x.t).1.threads.length; rw [e2]; exact Nat.le_refl _⟩
  ·have := wake_r hp (x := { x with c := (unlockC x.c a x.t).1 }) e4 e3.1 (by show _ < ((unlockC x.c a x.t).1.threads.length : Int); rw [e2]; exact e3.2.1) []
   exact ⟨this.inv, this.p, this.t, this.woken, by have := this.len; rw [show ({ x with c := (unlockC x.c a x.t).1 } : Xs).c.threads.length = x.c.threads.length from by show (unlockC x.c a x.t).1.threads.length = _; rw [e2]] at this; exact this⟩
 ·have e : (unlockC x.c a x.t).2.2 = 10 := by unfold unlockC; rw [if_pos ho]
  rw [e, if_neg (by omega)]
  exact end_r hp h (by omega) (by omega)
theorem wait_r {p : Prog} (hp : MayP p) {x : Xs} (h : Run p x) {a : Int} (h0 : 0 ≤ a) (h1 : a < p.conds.length) :
  Res p x (if (waitC x.c a (at' p.conds a) x.t).2.2 = 0 then restX (wakeF { x with c := (waitC x.c a (at' p.conds a) x.t).1 } (waitC x.c a (at' p.conds a) x.t).2.1 []) x.t 4 a else endF x x.t 4) := by
 have hm := hp.conds.2 _ (at_in h0 h1)
 generalize at' p.conds a = m at *
 by_cases ho : at' x.c.owners m = x.t
 ·obtain ⟨e1, e2, e3⟩ := unlock_i rfl h.inv hm.1 hm.2 ho h.t.1
  have hl := h.inv.len
  have hw : (waitC x.c a m x.t) = ({ (unlockC x.c m x.t).1 with waitq := (unlockC x.c m x.t).1.waitq.set a.toNat (at' (unlockC x.c m x.t).1.waitq a ++ [x.t]) }, (unlockC x.c m x.t).2.1, (unlockC x.c m x.t).2.2) := by
   unfold waitC; rw [if_neg (by omega)]
  rw [hw]
  simp only [e1, if_true]
  have hres : Res p x (wakeF { x with c := (unlockC x.c m x.t).1 } (unlockC x.c m x.t).2.1 []) := by
   have := unlock_r hp h hm.1 hm.2
   rwa [if_pos e1] at this
  have hx2 : Run p (wakeF { x with c := (unlockC x.c m x.t).1 } (unlockC x.c m x.t).2.1 []) := by
   refine ⟨hres.inv, hres.p.trans h.p, ⟨by rw [hres.t]; exact h.t.1, by rw [hres.t]; have := h.t.2; have := hres.len; omega⟩, ?_⟩
   rw [hres.t]
   rcases e3 with ⟨e3, e4⟩ | ⟨e3, e4⟩
   ·rw [e3, wakeF_no _ (by omega)]
    show (at' (unlockC x.c m x.t).1.threads x.t).state = 0
    rw [e2]; exact h.st
   ·rw [wakeF_nil _ e3.1 (by show _ < ((unlockC x.c m x.t).1.threads.length : Int); rw [e2]; exact e3.2.1)]
    show (nth (withT (unlockC x.c m x.t).1 (unlockC x.c m x.t).2.1 _).threads x.t.toNat).state = 0
    rw [withT_nth e3.1 (by rw [e2]; exact e3.2.1)]
    split
    ·rfl
    ·rw [e2]; exact h.st
  have hE : ∀ (w : Int), (w < 0 ∨ (0 ≤ w ∧ w < (unlockC x.c m x.t).1.threads.length)) → wakeF { x with c := { (unlockC x.c m x.t).1 with waitq := (unlockC x.c m x.t).1.waitq.set a.toNat (at' (unlockC x.c m x.t).1.waitq a ++ [x.t]) } } w [] =
    { wakeF { x with c := (unlockC x.c m x.t).1 } w [] with c := { (wakeF { x with c := (unlockC x.c m x.t).1 } w []).c with waitq := (wakeF { x with c := (unlockC x.c m x.t).1 } w []).c.waitq.set a.toNat (at' (wakeF { x with c := (unlockC x.c m x.t).1 } w []).c.waitq a ++ [x.t]) } } := fun w hw => by
   rcases hw with hw | hw
   ·rw [wakeF_no _ hw, wakeF_no _ hw]
   ·rw [wakeF_nil _ hw.1 hw.2, wakeF_nil _ hw.1 hw.2]; rfl
  rw [hE _ (e3.elim (fun e3 => .inl (by omega)) fun e3 => .inr ⟨e3.1.1, by rw [e2]; exact e3.1.2.1⟩)]
  have ht := hres.t
  have ht2 : (wakeF { x with c := (unlockC x.c m x.t).1 } (unlockC x.c m x.t).2.1 []).t = x.t := ht
  refine hres.trans ?_
  generalize wakeF { x with c := (unlockC x.c m x.t).1 } (unlockC x.c m x.t).2.1 [] = y at *
  rw [← ht2]
  have hly := hx2.inv.len
  refine enter_r hx2 h0 (by simp [nRows]; omega) (fun r' k' => ?_) rfl (hly.waitq' _ _) rfl (hx2.inv.things.waits _)
  rw [row_set4 (by rw [hly.waitq]; omega)]; simp [rowOf, at']
 ·have e : (waitC x.c a m x.t).2.2 = 10 := by unfold waitC unlockC; rw [if_pos ho]; rfl
  rw [e, if_neg (by omega)]
  exact end_r hp h (by omega) (by omega)
theorem sigStep_r {p : Prog} (hp : MayP p) {x : Xs} (h : Inv p (-1) noD x.c) {a m : Int} (h0 : 0 ≤ a) (h1 : a < p.conds.length) (hm0 : 0 ≤ m) (hm1 : m < p.mutexes) (hq : (at' x.c.waitq a).length ≠ 0) : Res p x (sigStep m a x) ∧ ((sigStep m a x).c.waitq = x.c.waitq.set a.toNat ((at' x.c.waitq a).drop 1)) := by
 have hl := h.len
 have hhd : rowOf x.c 4 a.toNat = nth (at' x.c.waitq a) 0 :: (at' x.c.waitq a).drop 1 := by
  show nth x.c.waitq a.toNat = _
  exact head_nth (by unfold at' at hq; omega)
 obtain ⟨hw, hlv⟩ := h.leave (r := 4) (k := a.toNat) (c' := { x.c with waitq := x.c.waitq.set a.toNat ((at' x.c.waitq a).drop 1) }) (by simp [nRows]; omega) (by omega) hhd (fun r' k' => row_set4 (by rw [hl.waitq]; omega) _ _ _) rfl (hl.waitq' _ _) rfl (h.things.waits _)
 unfold sigStep signalC
 rw [if_neg hq]
 simp only
 generalize nth (at' x.c.waitq a) 0 = w at *
 obtain ⟨w, rfl⟩ : ∃ n : Nat, w = n := ⟨w.toNat, by omega⟩
 unfold lockC
 by_cases ho : 0 ≤ at' x.c.owners m
 ·simp only [if_pos ho, Bool.false_eq_true, if_false]
  have hl2 := hlv.len
  refine ⟨⟨hlv.enter (t := w) (by have := hw.2.1; simpa using this) (.inr rfl) hw.2.2.1 (r := 3) (k := m.toNat) (by simp [nRows]; omega) (fun r' k' => ?_) ?_ ((hl2.lockq' _ _).thr _) rfl ((hlv.things.lockset m.toNat (at' x.c.lockq m ++ [(w : Int)]) (by show at' x.c.owners m ≠ -1; omega)).thr _), rfl, rfl, fun _ h => .inl h, ?_⟩, rfl⟩
  ·show rowOf { ({ x.c with waitq := x.c.waitq.set a.toNat ((at' x.c.waitq a).drop 1) } : Cor) with lockq := x.c.lockq.set m.toNat (at' x.c.lockq m ++ [(w : Int)]) } r' k' = _
   rw [row_set3 (c := { x.c with waitq := x.c.waitq.set a.toNat ((at' x.c.waitq a).drop 1) }) (by show _ < x.c.lockq.length; rw [hl.lockq]; omega)]
   simp [rowOf, at']
  ·show x.c.threads.set _ _ = x.c.threads.set _ _
   rw [show ((m.toNat : Nat) : Int) = m by omega]; rfl
  ·exact Nat.le_of_eq (rest_len _ _ _ _).symm
 ·simp only [if_neg ho, if_true]
  have hI : Inv p w noD { ({ x.c with waitq := x.c.waitq.set a.toNat ((at' x.c.waitq a).drop 1) } : Cor) with owners := x.c.owners.set m.toNat (w : Int) } :=
   hlv.same rfl rfl (hlv.len.owners' _ _) (fun _ _ => rfl) (hlv.things.owner m.toNat hw.1 hw.2.1)
  have := wake_r hp (x := { x with c := { x.c with waitq := x.c.waitq.set a.toNat ((at' x.c.waitq a).drop 1), owners := x.c.owners.set m.toNat (w : Int) } }) hI hw.1 hw.2.1 []
  refine ⟨⟨this.inv, this.p, this.t, this.woken, this.len⟩, ?_⟩
  rw [wakeF_nil { x with c := { x.c with waitq := x.c.waitq.set a.toNat ((at' x.c.waitq a).drop 1), owners := x.c.owners.set m.toNat (w : Int) } } hw.1 hw.2.1]; rfl
theorem sig_r {p : Prog} (hp : MayP p) (kind : Int) {a m : Int} (h0 : 0 ≤ a) (h1 : a < p.conds.length) (hm0 : 0 ≤ m) (hm1 : m < p.mutexes) : ∀ (n : Nat) {x : Xs}, Inv p (-1) noD x.c → Res p x (sigX kind m a n x)
 | 0, x, h => .refl h
 | n + 1, x, h => by
  unfold sigX
  split
  ·exact .refl h
  ·rename_i hq
   have h1' := (sigStep_r hp h h0 h1 hm0 hm1 hq).1
   split
   ·exact h1'
   ·exact h1'.trans (sig_r hp kind h0 h1 hm0 hm1 n h1'.inv)
theorem mutex_r {p : Prog} (hp : MayP p) {x : Xs} (h : Run p x) {q : Req} (hq : ReqI p q) (hk : q.kind = 6 ∨ q.kind = 7 ∨ q.kind = 8 ∨ q.kind = 9 ∨ q.kind = 10) : Res p x (mutexX x q.kind q.a) := by
 obtain e : x.p = p := h.p
 subst e
 unfold mutexX
 by_cases h6 : q.kind = 6
 ·rw [if_pos h6]
  have := hq.mutex (.inl h6)
  exact lock_r h this.1 this.2
 rw [if_neg h6]
 by_cases h7 : q.kind = 7
 ·rw [if_pos h7]
  have := hq.mutex (.inr h7)
  exact unlock_r hp h this.1 this.2
 rw [if_neg h7]
 have hc := hq.cond (by omega)
 by_cases h8 : q.kind = 8
 ·rw [if_pos h8]
  exact wait_r hp h hc.1 hc.2
 rw [if_neg h8]
 have hm := hp.conds.2 _ (at_in hc.1 hc.2)
 exact sig_r hp _ hc.1 hc.2 hm.1 hm.2 _ h.inv
theorem sema_r {p : Prog} (hp : MayP p) {x : Xs} (h : Run p x) {kind a : Int} (h0 : 0 ≤ a) (h1 : a < p.semas.length) : Res p x (semaX x kind a) := by
 have hl := h.inv.len
 have hc := h.inv.things.counts a.toNat (by rw [hl.counts]; omega)
 have hs := h.inv.things.sema a.toNat (by rw [hl.counts]; omega)
 unfold semaX
 split
 ·unfold downC
  by_cases ho : at' x.c.counts a = 0
  ·simp only [if_pos ho, Bool.false_eq_true, if_false]
   refine enter_r h h0 (by simp [nRows]; omega) (fun r' k' => ?_) rfl (hl.downq' _ _) rfl (h.inv.things.downset _ _ ho)
   rw [row_set5 (by rw [hl.downq]; omega)]; simp [rowOf, at']
  ·simp only [if_neg ho, if_true]
   unfold at' at ho
   exact same_r h.inv rfl rfl (hl.counts' _ _) (fun _ _ => rfl) (h.inv.things.count _ (by unfold at'; omega) (by unfold at'; omega) (.inr (hs.resolve_left ho)))
 ·unfold upC
  by_cases hq : (at' x.c.downq a).length = 0
  ·rw [if_pos hq]
   have hq0 : nth x.c.downq a.toNat = [] := List.length_eq_zero_iff.1 hq
   split
   ·rw [wakeF_no _ (by omega)]
    exact same_r h.inv rfl rfl (hl.counts' _ _) (fun _ _ => rfl) (h.inv.things.count _ (by unfold at'; omega) (by unfold at' at *; omega) (.inr hq0))
   ·rw [wakeF_no _ (by omega)]
    exact .refl h.inv
  ·rw [if_neg hq]
   have hhd : rowOf x.c 5 a.toNat = nth (at' x.c.downq a) 0 :: (at' x.c.downq a).drop 1 := by
    show nth x.c.downq a.toNat = _
    exact head_nth (by unfold at' at hq; omega)
   have h00 : nth x.c.counts a.toNat = 0 := hs.resolve_right fun e => hq (by unfold at'; rw [e]; rfl)
   obtain ⟨hw, hlv⟩ := h.inv.leave (r := 5) (k := a.toNat) (c' := { x.c with downq := x.c.downq.set a.toNat ((at' x.c.downq a).drop 1) }) (by simp [nRows]; omega) (by omega) hhd (fun r' k' => row_set5 (by rw [hl.downq]; omega) _ _ _) rfl (hl.downq' _ _) rfl (h.inv.things.downset _ _ h00)
   have := wake_r hp (x := { x with c := { x.c with downq := x.c.downq.set a.toNat ((at' x.c.downq a).drop 1) } }) hlv hw.1 hw.2.1 []
   exact ⟨this.inv, this.p, this.t, this.woken, this.len⟩
end Go.Hb
end

section
namespace Go.Hb
open Go
theorem nth_pair {l : List Int} {t v : Int} (i : Nat) : nth (l ++ [t, v]) i = if i < l.length then nth l i else if i = l.length then t else if i = l.length + 1 then v else 0 := by
 unfold nth
 simp only [List.getD_eq_getElem?_getD]
 by_cases h : i < l.length
 ·rw [if_pos h, List.getElem?_append_left h]
 ·rw [if_neg h, List.getElem?_append_right (by omega)]
  by_cases h2 : i = l.length
  ·rw [if_pos h2, h2]; simp
  ·rw [if_neg h2]
   by_cases h3 : i = l.length + 1
   ·rw [if_pos h3, h3]; simp
   ·rw [if_neg h3, List.getElem?_eq_none (by simp; omega)]; rfl
theorem nth_drop' {α : Type} [Enc α] (l : List α) (n i : Nat) : nth (l.drop n) i = nth l (n + i) := by simp [nth, List.getD_eq_getElem?_getD]
theorem filter_nil {l : List Int} {f : Int → Bool} (h : l = []) : l.filter f = [] := by rw [h]; rfl
theorem nth_map_filter (L : List (List Int)) (f : Int → Bool) (k : Nat) : nth (L.map fun l => l.filter f) k = (nth L k).filter f := by
 by_cases hk : k < L.length
 ·rw [nth_eq (by simpa using hk), nth_eq hk]; simp
 ·rw [nth_out (by simp; omega), nth_out (by omega)]; rfl
theorem ThingsI.cancel {p : Prog} {n : Nat} {c : Cor} (h : ThingsI p n c) (t : Int) : ThingsI p n (cancelC c t) := by
 refine ⟨h.owners, h.counts, h.mutex, h.sema, fun k hk => ?_⟩
 have hc := h.chan k hk
 show ChanI p k (nth c.bufs k) (nth c.sendq k) (nth (c.recvq.map _) k)
 rw [nth_map_filter]
 exact ⟨hc.recv.imp filter_nil id, hc.send, hc.room, hc.bk, hc.even, hc.sk⟩
theorem ChanI.pop {p : Prog} {k : Nat} {b s r : List Int} (h : ChanI p k b s r) : s.drop 2 = s.drop 2 ∧ (s.drop 2).length % 2 = 0 ∧ ∀ i, i * 2 + 1 < (s.drop 2).length → -1073741824 ≤ nth (s.drop 2) (i * 2 + 1) ∧ nth (s.drop 2) (i * 2 + 1) ≤ 1073741824 := by
 refine ⟨rfl, by have := h.even; rw [List.length_drop]; omega, fun i hi => ?_⟩
 rw [List.length_drop] at hi
 rw [nth_drop', show 2 + (i * 2 + 1) = (i + 1) * 2 + 1 by omega]
 exact h.sk (i + 1) (by omega)
section
variable {p : Prog} {x : Xs} {a : Int}
theorem send_r (hp : MayP p) (h : Run p x) {v : Int} (hv : -1073741824 ≤ v ∧ v ≤ 1073741824) (h0 : 0 ≤ a) (h1 : a < p.chans.length) {q : Req} (hq : q.kind = 13) (ha : q.a = a) (hqv : q.v = v) : Res p x (chanX x q) := by
 obtain e : x.p = p := h.p
 subst e
 subst ha; subst hqv
 have hl := h.inv.len
 have hn : q.a.toNat < x.p.chans.length := by omega
 have hch := h.inv.things.chan q.a.toNat hn
 unfold chanX
 rw [if_pos hq]
 simp only
 by_cases hr : 0 < (at' x.c.recvq q.a).length
 ·have hs : sendC x.c q.a (at' x.p.chans q.a) x.t q.v = (cancelC x.c (nth (at' x.c.recvq q.a) 0), nth (at' x.c.recvq q.a) 0, true) := by unfold sendC; rw [if_pos hr]
  rw [hs]
  simp only [Bool.true_eq_false, if_false]
  obtain ⟨hw, hcn⟩ := h.inv.cancel (k := q.a.toNat) (t := nth (at' x.c.recvq q.a) 0) (by simp [nRows]; omega) (nth_mem hr) (h.inv.things.cancel _)
  rw [if_neg (by omega)]
  generalize nth (at' x.c.recvq q.a) 0 = w at *
  have key : ∀ l, Res x.p x (wakeF { x with c := cancelC x.c w } w l) := fun l => by
   have := wake_r hp (x := { x with c := cancelC x.c w }) hcn hw.1 hw.2.1 l
   exact ⟨this.inv, this.p, this.t, this.woken, this.len⟩
  split
  ·exact key _
  ·exact key _
 by_cases hb : ((at' x.c.bufs q.a).length : Int) < at' x.p.chans q.a
 ·have hs : sendC x.c q.a (at' x.p.chans q.a) x.t q.v = ({ x.c with bufs := x.c.bufs.set q.a.toNat (at' x.c.bufs q.a ++ [q.v]) }, -1, true) := by unfold sendC; rw [if_neg hr, if_pos hb]
  rw [hs]
  simp only [Bool.true_eq_false, if_false]
  rw [if_pos (by omega)]
  have hr0 : nth x.c.recvq q.a.toNat = [] := List.length_eq_zero_iff.1 (by unfold at' at hr; omega)
  have hs0 : nth x.c.sendq q.a.toNat = [] := hch.send.resolve_right (by unfold at' at hb; omega)
  refine same_r h.inv rfl rfl (hl.bufs' _ _) (fun _ _ => rfl) (h.inv.things.chans (c := x.c) (B := x.c.bufs.set q.a.toNat (at' x.c.bufs q.a ++ [q.v])) (S := x.c.sendq) (R := x.c.recvq) fun k hk => ?_)
  rw [nth_set_gen]
  by_cases e : q.a.toNat = k
  ·subst e
   rw [if_pos ⟨rfl, by rw [hl.bufs]; exact hn⟩]
   refine .inr ⟨.inl hr0, .inl hs0, ?_, kept_app hch.bk (fun y hy => by simp at hy; subst hy; exact hv), hch.even, hch.sk⟩
   unfold at' at hb ⊢
   simp; omega
  ·rw [if_neg (fun h => e h.1)]
   exact .inl ⟨rfl, rfl, rfl⟩
 ·have hs : sendC x.c q.a (at' x.p.chans q.a) x.t q.v = ({ x.c with sendq := x.c.sendq.set q.a.toNat (at' x.c.sendq q.a ++ [x.t, q.v]) }, -1, false) := by unfold sendC; rw [if_neg hr, if_neg hb]
  rw [hs]
  simp only [if_true]
  have hr0 : nth x.c.recvq q.a.toNat = [] := List.length_eq_zero_iff.1 (by unfold at' at hr; omega)
  refine enter_r h h0 (by simp [nRows]; omega) (fun r' k' => ?_) rfl (hl.sendq' _ _) rfl (h.inv.things.chans (c := x.c) (B := x.c.bufs) (S := x.c.sendq.set q.a.toNat (at' x.c.sendq q.a ++ [x.t, q.v])) (R := x.c.recvq) fun k hk => ?_)
  ·rw [row_set6 (by rw [hl.sendq]; exact hn)]; unfold at'; rw [evens_app _ _ hch.even]; simp [rowOf]
  ·rw [nth_set_gen]
   by_cases e : q.a.toNat = k
   ·subst e
    rw [if_pos ⟨rfl, by rw [hl.sendq]; exact hn⟩]
    refine .inr ⟨.inl hr0, .inr ?_, hch.room, hch.bk, ?_, fun i hi => ?_⟩
    ·have := hch.room; unfold at' at hb; omega
    ·have := hch.even; unfold at'; simp; omega
    ·have he := hch.even
     have hsk := hch.sk i
     unfold at' at hi ⊢
     rw [nth_pair]
     simp at hi
     split
     ·exact hsk (by omega)
     ·rw [if_neg (by omega), if_pos (by omega)]; exact hv
   ·rw [if_neg (fun h => e h.1)]
    exact .inl ⟨rfl, rfl, rfl⟩
theorem recv_i {p : Prog} {c : Cor} (h : Inv p (-1) noD c) {ch t : Int} (h0 : 0 ≤ ch) (h1 : ch < p.chans.length) (hr : readyC c ch = true) :
  (recvC c ch t).2.2.2 = true ∧ (recvC c ch t).1.threads = c.threads ∧ (((recvC c ch t).2.2.1 = -1 ∧ Inv p (-1) noD (recvC c ch t).1) ∨
   ((0 ≤ (recvC c ch t).2.2.1 ∧ (recvC c ch t).2.2.1 < c.threads.length ∧ (at' c.threads (recvC c ch t).2.2.1).state ≠ 9 ∧ (at' c.threads (recvC c ch t).2.2.1).state ≠ 0) ∧ Inv p (recvC c ch t).2.2.1 noD (recvC c ch t).1)) := by
 have hl := h.len
 have hn : ch.toNat < p.chans.length := by omega
 have hch := h.things.chan ch.toNat hn
 have he := hch.even
 have hpop := hch.pop.2
 have hrow : ∀ {B : List (List Int)}, 0 < (nth c.sendq ch.toNat).length → ∀ r' k', rowOf { c with bufs := B, sendq := c.sendq.set ch.toNat ((nth c.sendq ch.toNat).drop 2) } r' k' = if r' = 6 ∧ k' = ch.toNat then evens ((nth c.sendq ch.toNat).drop 2) else rowOf c r' k' := fun {B} hs r' k' => by
  have := row_set6 (c := { c with bufs := B }) (m := ch.toNat) (by show _ < c.sendq.length; rw [hl.sendq]; exact hn) ((nth c.sendq ch.toNat).drop 2) r' k'
  exact this
 have hhd : 0 < (nth c.sendq ch.toNat).length → rowOf c 6 ch.toNat = nth (nth c.sendq ch.toNat) 0 :: evens ((nth c.sendq ch.toNat).drop 2) := fun hs => by
  show evens (nth c.sendq ch.toNat) = _
  exact evens_head (by omega)
 have hrb : ∀ {B : List (List Int)}, (∀ k, k ≠ ch.toNat → nth B k = nth c.bufs k) → 0 < (nth c.sendq ch.toNat).length → ((nth B ch.toNat).length : Int) = nth p.chans ch.toNat → kept' (nth B ch.toNat) → ThingsI p c.threads.length { c with bufs := B, sendq := c.sendq.set ch.toNat ((nth c.sendq ch.toNat).drop 2) } := fun {B} hB hs hlen hk => by
  have hr0 : nth c.recvq ch.toNat = [] := hch.recv.resolve_right fun e => by have := e.2; rw [this] at hs; simp at hs
  refine h.things.chans (c := c) (R := c.recvq) fun k hk' => ?_
  rw [nth_set_gen]
  by_cases e : ch.toNat = k
  ·subst e
   rw [if_pos ⟨rfl, by rw [hl.sendq]; exact hn⟩]
   exact .inr ⟨.inl hr0, .inr hlen, by omega, hk, hpop.1, hpop.2⟩
  ·rw [if_neg (fun h => e h.1)]
   exact .inl ⟨hB k (fun h => e h.symm), rfl, rfl⟩
 unfold recvC at'
 by_cases hb : 0 < (nth c.bufs ch.toNat).length
 ·rw [if_pos hb]
  by_cases hs : 0 < (nth c.sendq ch.toNat).length
  ·rw [if_pos hs]
   have hfull : ((nth c.bufs ch.toNat).length : Int) = nth p.chans ch.toNat := hch.send.resolve_left fun e => by rw [e] at hs; simp at hs
   have hself : nth (c.bufs.set ch.toNat ((nth c.bufs ch.toNat).drop 1 ++ [nth (nth c.sendq ch.toNat) 1])) ch.toNat = (nth c.bufs ch.toNat).drop 1 ++ [nth (nth c.sendq ch.toNat) 1] := nth_set (by rw [hl.bufs]; exact hn) _
   have hI := hrb (B := c.bufs.set ch.toNat ((nth c.bufs ch.toNat).drop 1 ++ [nth (nth c.sendq ch.toNat) 1])) (fun k hk => nth_set_ne (fun e => hk e.symm) _) hs (by rw [hself]; simp; omega) (by
    rw [hself]
    exact kept_app (kept_drop hch.bk 1) (fun y hy => by simp at hy; subst hy; exact hch.sk 0 (by omega)))
   exact ⟨rfl, rfl, .inr (h.leave (r := 6) (k := ch.toNat) (by simp [nRows]; omega) (by omega) (hhd hs) (hrow hs) rfl ((hl.bufs' _ _).sendq' _ _) rfl hI)⟩
  ·rw [if_neg hs]
   have hs0 : nth c.sendq ch.toNat = [] := List.length_eq_zero_iff.1 (by omega)
   refine ⟨rfl, rfl, .inl ⟨rfl, h.same rfl rfl (hl.bufs' _ _) (fun _ _ => rfl) (h.things.chans (c := c) (S := c.sendq) (R := c.recvq) fun k hk => ?_)⟩⟩
   rw [nth_set_gen]
   by_cases e : ch.toNat = k
   ·subst e
    rw [if_pos ⟨rfl, by rw [hl.bufs]; exact hn⟩]
    refine .inr ⟨.inl (hch.recv.resolve_right fun e => by have := e.1; rw [this] at hb; simp at hb), .inl hs0, ?_, kept_drop hch.bk 1, hch.even, hch.sk⟩
    have := hch.room
    simp; omega
   ·rw [if_neg (fun h => e h.1)]
    exact .inl ⟨rfl, rfl, rfl⟩
 ·rw [if_neg hb]
  have hs : 0 < (nth c.sendq ch.toNat).length := by unfold readyC at' at hr; simp at hr; omega
  rw [if_pos hs]
  have hfull : ((nth c.bufs ch.toNat).length : Int) = nth p.chans ch.toNat := hch.send.resolve_left fun e => by rw [e] at hs; simp at hs
  have hI := hrb (B := c.bufs) (fun k hk => rfl) hs hfull hch.bk
  exact ⟨rfl, rfl, .inr (h.leave (r := 6) (k := ch.toNat) (by simp [nRows]; omega) (by omega) (hhd hs) (hrow hs) rfl (hl.sendq' _ _) rfl hI)⟩
theorem got_r (hp : MayP p) (h : Run p x) {c' : Cor} {s : Int} (l : List Int) (hth : c'.threads = x.c.threads)
  (hs : (s = -1 ∧ Inv p (-1) noD c') ∨ ((0 ≤ s ∧ s < x.c.threads.length ∧ (at' x.c.threads s).state ≠ 9 ∧ (at' x.c.threads s).state ≠ 0) ∧ Inv p s noD c')) : Res p x (wakeF (tellF { x with c := c' } x.t l) s []) := by
 have hinv : ∃ ex, Inv p ex noD c' := by
  rcases hs with hs | hs
  ·exact ⟨_, hs.2⟩
  ·exact ⟨_, hs.2⟩
 obtain ⟨ex, hi⟩ := hinv
 have hat : at' c'.threads x.t = at' x.c.threads x.t := by rw [hth]
 have ht := tell_i (end_i p fu) (D := noD) (x := { x with c := c' }) (t := x.t) (l := l) h.t.1 (by show x.t < (c'.threads.length : Int); rw [hth]; exact h.t.2) (by show (at' c'.threads x.t).state = 0; rw [hat]; exact h.st) (by show (at' c'.threads x.t).on = 0; rw [hat]; exact h.on) (Inv.all (x := { x with c := c' }) hi) (hi.c2 hp) hi.join
 have hlen : (tellF { x with c := c' } x.t l).c.threads.length = x.c.threads.length := by
  have := ht.1.len
  rw [show ({ x with c := c' } : Xs).c.threads.length = x.c.threads.length from congrArg List.length hth] at this
  exact this
 have hwk : ∀ w ∈ (tellF { x with c := c' } x.t l).woken, w ∈ x.woken ∨ (0 ≤ w ∧ w < x.c.threads.length) := fun w hw => by
  have := ht.1.woken w hw
  rw [show ({ x with c := c' } : Xs).c.threads.length = x.c.threads.length from congrArg List.length hth] at this
  exact this
 rcases hs with ⟨rfl, hs⟩ | ⟨hs, hs2⟩
 ·rw [wakeF_no _ (by omega)]
  have := hs.ev (x := { x with c := c' }) ht.1 ht.2
  exact ⟨this, ht.1.p, ht.1.t, by rw [hlen]; exact hwk, by rw [hlen]; exact Nat.le_refl _⟩
 ·have hx := hs2.ev (x := { x with c := c' }) ht.1 ht.2
  have := wake_r hp (x := tellF { x with c := c' } x.t l) hx hs.1 (by rw [hlen]; exact hs.2.1) []
  refine ⟨this.inv, this.p.trans ht.1.p, this.t.trans ht.1.t, fun w hw => ?_, by have := this.len; omega⟩
  have hl := this.len
  rcases this.woken w hw with hw | hw
  ·rcases hwk w hw with hw | hw
   ·exact .inl hw
   ·exact .inr ⟨hw.1, by omega⟩
  ·exact .inr hw
theorem recv_r (hp : MayP p) (h : Run p x) {q : Req} (hq : q.kind = 14) (h0 : 0 ≤ q.a) (h1 : q.a < p.chans.length) : Res p x (chanX x q) := by
 have hl := h.inv.len
 unfold chanX
 rw [if_neg (by omega), if_pos hq]
 simp only
 by_cases hr : readyC x.c q.a = true
 ·obtain ⟨e1, e2, e3⟩ := recv_i (t := x.t) h.inv h0 h1 hr
  rw [e1]
  simp only [Bool.true_eq_false, if_false]
  exact got_r hp h _ e2 e3
 ·have hn : ¬ 0 < (at' x.c.bufs q.a).length ∧ ¬ 0 < (at' x.c.sendq q.a).length := by unfold readyC at hr; simp at hr; simp [hr]
  have hrc : recvC x.c q.a x.t = ({ x.c with recvq := x.c.recvq.set q.a.toNat (at' x.c.recvq q.a ++ [x.t]) }, 0, -1, false) := by unfold recvC; rw [if_neg hn.1, if_neg hn.2]
  rw [hrc]
  simp only [if_true]
  have hb0 : nth x.c.bufs q.a.toNat = [] := List.length_eq_zero_iff.1 (by have := hn.1; unfold at' at this; omega)
  have hs0 : nth x.c.sendq q.a.toNat = [] := List.length_eq_zero_iff.1 (by have := hn.2; unfold at' at this; omega)
  refine enter_r h h0 (by simp [nRows]; omega) (fun r' k' => ?_) rfl (hl.recvq' _ _) rfl (h.inv.things.chans (c := x.c) (B := x.c.bufs) (S := x.c.sendq) (R := x.c.recvq.set q.a.toNat (at' x.c.recvq q.a ++ [x.t])) fun k hk => ?_)
  ·rw [row_set7 (by rw [hl.recvq]; omega)]; simp [rowOf, at']
  ·rw [nth_set_gen]
   by_cases e : q.a.toNat = k
   ·subst e
    have hc := h.inv.things.chan q.a.toNat hk
    rw [if_pos ⟨rfl, by rw [hl.recvq]; exact hk⟩]
    exact .inr ⟨.inr ⟨hb0, hs0⟩, hc.send, hc.room, hc.bk, hc.even, hc.sk⟩
   ·rw [if_neg (fun h => e h.1)]
    exact .inl ⟨rfl, rfl, rfl⟩
theorem waitAll_nth (t : Int) : ∀ (l : List Int) (q : List (List Int)) (k : Nat), l.Nodup → (∀ y ∈ l, 0 ≤ y ∧ y < q.length) → nth (waitAll q l t) k = nth q k ++ if (k : Int) ∈ l then [t] else []
 | [], q, k, _, _ => by simp [waitAll]
 | y :: l, q, k, hnd, hin => by
  have hy := hin y (by simp)
  show nth (waitAll (q.set y.toNat (at' q y ++ [t])) l t) k = _
  rw [waitAll_nth t l _ k (List.nodup_cons.1 hnd).2 (fun z hz => by rw [List.length_set]; exact hin z (by simp [hz])), nth_set_gen]
  by_cases e : y.toNat = k
  ·subst e
   have hn : ¬ ((y.toNat : Nat) : Int) ∈ l := by rw [show ((y.toNat : Nat) : Int) = y by omega]; exact (List.nodup_cons.1 hnd).1
   rw [if_pos ⟨rfl, by omega⟩, if_neg hn, if_pos (by simp; omega)]
   simp [at']
  ·rw [if_neg (fun h => e h.1)]
   have : ((k : Int) ∈ y :: l) ↔ (k : Int) ∈ l := by
    simp only [List.mem_cons]
    exact ⟨fun h => h.resolve_left (by omega), .inr⟩
   simp only [this]
theorem waitAll_len' (t : Int) : ∀ (l : List Int) (q : List (List Int)), (waitAll q l t).length = q.length
 | [], q => rfl
 | y :: l, q => by
  show (waitAll (q.set y.toNat (at' q y ++ [t])) l t).length = _
  rw [waitAll_len' t l]; simp
theorem select_r (hp : MayP p) (h : Run p x) {q : Req} (hq : q.kind = 15) (h0 : 0 ≤ q.a) (h1 : q.a < p.choices.length) : Res p x (chanX x q) := by
 obtain e : x.p = p := h.p
 subst e
 have hl := h.inv.len
 have hcho := hp.choices.2 _ (at_in h0 h1)
 unfold chanX
 rw [if_neg (by omega), if_neg (by omega)]
 simp only
 cases hf : (at' x.p.choices q.a).findIdx? (readyC x.c) with
 | some i =>
  have hsel : selectC x.c (at' x.p.choices q.a) x.t = ((recvC x.c (nth (at' x.p.choices q.a) i) x.t).1, (i : Int), (recvC x.c (nth (at' x.p.choices q.a) i) x.t).2.1, (recvC x.c (nth (at' x.p.choices q.a) i) x.t).2.2.1, true) := by unfold selectC; rw [hf]
  rw [hsel]
  simp only [Bool.true_eq_false, if_false]
  obtain ⟨hi1, hi2, _⟩ := List.findIdx?_eq_some_iff_getElem.1 hf
  have hmem : nth (at' x.p.choices q.a) i ∈ at' x.p.choices q.a := nth_mem hi1
  have hrd : readyC x.c (nth (at' x.p.choices q.a) i) = true := by rw [nth_eq hi1]; exact hi2
  obtain ⟨e1, e2, e3⟩ := recv_i (t := x.t) h.inv (hcho.2.2.2 _ hmem).1 (hcho.2.2.2 _ hmem).2 hrd
  exact got_r hp h _ e2 e3
 | none =>
  have hsel : selectC x.c (at' x.p.choices q.a) x.t = ({ x.c with recvq := waitAll x.c.recvq (at' x.p.choices q.a) x.t }, -1, 0, -1, false) := by unfold selectC; rw [hf]
  rw [hsel]
  simp only [if_true]
  have hnr : ∀ y ∈ at' x.p.choices q.a, readyC x.c y = false := fun y hy => by
   have := List.findIdx?_eq_none_iff.1 hf y hy
   exact this
  obtain ⟨n1, n2, n3⟩ := run_nat h
  have hi := run_in h
  have hw : ∀ k, nth (waitAll x.c.recvq (at' x.p.choices q.a) x.t) k = nth x.c.recvq k ++ if (k : Int) ∈ at' x.p.choices q.a then [x.t] else [] := fun k => waitAll_nth x.t _ _ k hcho.1 (fun y hy => by rw [hl.recvq]; exact hcho.2.2.2 y hy)
  have hrow : ∀ r k, rowOf (restX { x with c := { x.c with recvq := waitAll x.c.recvq (at' x.p.choices q.a) x.t } } x.t 8 q.a).c r k = if r = 7 then nth x.c.recvq k ++ (if (k : Int) ∈ at' x.p.choices q.a then [x.t] else []) else rowOf x.c r k := fun r k => by
   show rowOf { x.c with recvq := waitAll x.c.recvq (at' x.p.choices q.a) x.t } r k = _
   rw [rowOf_recvq, hw]
  have hrow7 : ∀ k, rowOf x.c 7 k = nth x.c.recvq k := fun k => by simp [rowOf]
  have hlen : LenI x.p { x.c with recvq := waitAll x.c.recvq (at' x.p.choices q.a) x.t } := ⟨hl.owners, hl.counts, hl.bufs, hl.lockq, hl.waitq, hl.downq, hl.sendq, by show (waitAll _ _ _).length = _; rw [waitAll_len']; exact hl.recvq⟩
  refine ⟨h.inv.change n1 (th := { nth x.c.threads x.t.toNat with state := 8, on := q.a }) rfl (hlen.thr _) rfl ⟨by simp, hi.code, hi.fr, hi.sk, hi.frs, hi.sks, fun h => by simp at h, fun _ => hi.live (by omega)⟩ (.inl rfl) (.inl rfl) (fun _ => ?_) (fun e => by omega) (h.inv.join.set (by simp) (.inl (by simp))) (fun r k u hu => ?_) (fun r k u hk hu => ?_) (fun r k hk => ?_) (.thr ?_ _), rfl, rfl, fun _ h => .inl h, ?_⟩
  ·exact ⟨fun h => by simp at h, fun h => by simp at h, fun h => by simp at h, fun h h' => by simp at h', fun _ => ⟨h0, h1⟩⟩
  ·rw [hrow] at hu
   split at hu
   ·rename_i e
    rcases List.mem_append.1 hu with hu | hu
    ·rw [e, hrow7]; exact .inr hu
    ·split at hu
     ·simp at hu; left; rw [hu]; exact n2.symm
     ·simp at hu
   ·exact .inr hu
  ·rw [hrow]
   split
   ·rename_i e
    rw [e, hrow7, List.count_append]
    split
    ·rw [List.count_singleton]
     have : (x.t == u) = false := by simp; omega
     rw [this]; simp
    ·simp
   ·rfl
  ·rw [hrow, if_neg (show ¬ ((x.t.toNat : Nat) : Int) = -1 by omega), n2]
   have hz := runs_zero h hk
   have hr := nRows_in hk
   by_cases e : r = 7
   ·subst e
    rw [hrow7] at hz
    rw [if_pos rfl, List.count_append, hz]
    unfold want must
    by_cases hm : (k : Int) ∈ at' x.p.choices q.a
    ·rw [if_pos hm, if_pos (by simp [hm])]; simp
    ·rw [if_neg hm, if_neg (by simp [hm])]; simp
   ·rw [if_neg e, hz]
    unfold want must
    rw [if_neg]
    simp only [Bool.or_eq_true, decide_eq_true_eq, not_or]
    exact ⟨fun h => by have := h.1; omega, fun h => e h.2.1⟩
  ·refine h.inv.things.chans (c := x.c) (B := x.c.bufs) (S := x.c.sendq) (R := waitAll x.c.recvq (at' x.p.choices q.a) x.t) fun k hk => ?_
   rw [hw]
   by_cases hm : (k : Int) ∈ at' x.p.choices q.a
   ·have hnr := hnr _ hm
    have hc := h.inv.things.chan k hk
    unfold readyC at' at hnr
    simp at hnr
    rw [hnr.1, hnr.2] at hc ⊢
    exact .inr ⟨.inr ⟨rfl, rfl⟩, hc.send, hc.room, hc.bk, hc.even, hc.sk⟩
   ·rw [if_neg hm]
    exact .inl ⟨rfl, rfl, by simp⟩
  ·exact Nat.le_of_eq (rest_len _ _ _ _).symm
end
end Go.Hb
end

section
namespace Go.Hb
open Go
theorem meet_r {p : Prog} (hp : MayP p) {x : Xs} (h : Run p x) {q : Req} (hq : ReqI p q) : Res p x (meetX x q) := by
 unfold meetX
 have hk := hq.kind
 rw [if_neg hk.2.2]
 by_cases h3 : q.kind = 3
 ·rw [if_pos h3]; have := hq.spawn h3; exact spawn_r hp h this.1 this.2
 rw [if_neg h3]
 by_cases h4 : q.kind = 4
 ·rw [if_pos h4]
  split
  ·rename_i hlt
   exact rest_r h (.inl ⟨rfl, hlt, (keep_in _).2⟩) hp
  ·exact .refl h.inv
 rw [if_neg h4]
 by_cases h5 : q.kind = 5
 ·rw [if_pos h5]; exact join_r hp h _
 rw [if_neg h5]
 by_cases h6 : q.kind = 6 ∨ q.kind = 7 ∨ q.kind = 8 ∨ q.kind = 9 ∨ q.kind = 10
 ·rw [if_pos h6]; exact mutex_r hp h hq h6
 rw [if_neg h6]
 by_cases h11 : q.kind = 11 ∨ q.kind = 12
 ·rw [if_pos h11]; have := hq.sema h11; exact sema_r hp h this.1 this.2
 rw [if_neg h11]
 by_cases h13 : q.kind = 13 ∨ q.kind = 14 ∨ q.kind = 15
 ·rw [if_pos h13]
  rcases h13 with h13 | h13 | h13
  ·have := hq.chan (.inl h13); exact send_r hp h hq.v this.1 this.2 h13 rfl rfl
  ·have := hq.chan (.inr h13); exact recv_r hp h h13 this.1 this.2
  ·have := hq.choice h13; exact select_r hp h h13 this.1 this.2
 rw [if_neg h13]
 split
 ·exact see_r h.inv _ _ _
 ·exact .refl h.inv
theorem endF_withT (p : Prog) (c : Cor) (t : Int) (y : Thr) (code : Int) : endF ⟨p, withT c t y, t, [], []⟩ t code = endF ⟨p, c, t, [], []⟩ t code := by
 unfold endF fu
 rw [endX_succ, endX_succ]
 have : end0 ⟨p, withT c t y, t, [], []⟩ t code = end0 ⟨p, c, t, [], []⟩ t code := by
  unfold end0 withT
  simp
 rw [this]
theorem run0 {p : Prog} {c : Cor} (h : Inv p (-1) noD c) {t : Int} (h0 : 0 ≤ t) (h1 : t < c.threads.length) (hs : (at' c.threads t).state = 0) : Run p ⟨p, c, t, [], []⟩ := ⟨h, rfl, ⟨h0, h1⟩, hs⟩
theorem run1 {p : Prog} {c : Cor} (h : Inv p (-1) noD c) {t : Int} (h0 : 0 ≤ t) (h1 : t < c.threads.length) (hs : (at' c.threads t).state = 0) {th : Thr} (hg : Goes p (at' c.threads t) th) : Run p ⟨p, withT c t th, t, [], []⟩ := by
 have hon := (run0 h h0 h1 hs).on
 have hv := ev_set (p := p) (x := ⟨p, c, t, [], []⟩) (t := t) (th := th) h0 h1 (.inr ⟨.inl hs, hg.i, .inl (hg.st.trans hs), hg.on.trans hon⟩)
 refine ⟨h.ev (x := ⟨p, c, t, [], []⟩) (y := ⟨p, withT c t th, t, [], []⟩) hv (h.join.set ?_ (.inl ?_)), rfl, ⟨h0, by show t < ((c.threads.set _ _).length : Int); rw [List.length_set]; exact h1⟩, ?_⟩
 ·rw [hg.st.trans hs]; omega
 ·rw [hg.st.trans hs]; omega
 ·show (at' (c.threads.set t.toNat th) t).state = 0
  rw [at_set h0 h1]; exact hg.st.trans hs
structure StepR (p : Prog) (c : Cor) (y : Xs) : Prop where
 inv : Inv p (-1) noD y.c
 woken : ∀ w ∈ y.woken, 0 ≤ w ∧ w < y.c.threads.length
 len : c.threads.length ≤ y.c.threads.length
theorem step_r {p : Prog} (hp : MayP p) {c : Cor} (h : Inv p (-1) noD c) {t : Int} (h0 : 0 ≤ t) (h1 : t < c.threads.length) (hs : (at' c.threads t).state = 0) : StepR p c (stepX p c t) := by
 unfold stepX
 have hth := h.thr t.toNat (by omega)
 have key : ∀ {y : Xs} {x : Xs}, Res p x y → x.woken = [] → x.c.threads.length = c.threads.length → StepR p c y := fun {y x} hr hw hl =>
  ⟨hr.inv, fun w hw' => by
   rcases hr.woken w hw' with h | h
   ·rw [hw] at h; simp at h
   ·exact h, by rw [← hl]; exact hr.len⟩
 rcases vmStep_i hp hth (by show (at' c.threads t).state ≠ 9; omega) with ⟨code, c0, c1, e⟩ | ⟨hg, hq⟩
 ·have e : vmStep p (at' c.threads t) = ends code := e
  rw [e]
  show StepR p c (meetX ⟨p, withT c t (thrEnd code), t, [], []⟩ ⟨1, 0, code⟩)
  unfold meetX
  rw [if_pos rfl]
  show StepR p c (endF ⟨p, withT c t (thrEnd code), t, [], []⟩ t code)
  rw [endF_withT]
  exact key (end_r hp (run0 h h0 h1 hs) c0 c1) rfl rfl
 ·exact key (meet_r hp (run1 h h0 h1 hs hg) hq) rfl (by show (c.threads.set _ _).length = _; rw [List.length_set])
theorem stepC_inv {p : Prog} (hp : MayP p) {c : Cor} (h : Inv p (-1) noD c) (t : Int) : Inv p (-1) noD (stepC p c t).1 := by
 unfold stepC
 split
 ·exact h
 ·split
  ·exact h
  ·exact (step_r hp h (by omega) (by omega) (by omega)).inv
def is1 (t : Thr) : Bool := decide (t.state = 1)
def DueP (c : Cor) (f : Int) : Prop := f < 0 ∨ (0 ≤ f ∧ f < c.threads.length ∧ (at' c.threads f).state = 1 ∧ (at' c.threads f).on ≤ c.now)
theorem due_fold (c : Cor) : ∀ (l : List Nat) (f : Int), (∀ t ∈ l, t < c.threads.length) → DueP c f → DueP c (l.foldl (dueStep c) f) ∧ (l.foldl (dueStep c) f < 0 → f < 0 ∧ ∀ t ∈ l, ¬ ((nth c.threads t).state = 1 ∧ (nth c.threads t).on ≤ c.now))
 | [], f, _, hf => ⟨hf, fun h => ⟨h, by simp⟩⟩
 | t :: l, f, hl, hf => by
  have ht := hl t (by simp)
  have h1 : DueP c (dueStep c f t) := by
   unfold dueStep
   split
   ·rename_i h; exact .inr ⟨by omega, by omega, h.1, h.2.1⟩
   ·exact hf
  have ih := due_fold c l (dueStep c f t) (fun u hu => hl u (by simp [hu])) h1
  rw [List.foldl_cons]
  refine ⟨ih.1, fun h => ?_⟩
  obtain ⟨q1, q2⟩ := ih.2 h
  unfold dueStep at q1
  split at q1
  ·omega
  ·rename_i hn
   refine ⟨q1, fun u hu => ?_⟩
   rcases List.mem_cons.1 hu with rfl | hu
   ·exact fun h => hn ⟨h.1, h.2, .inl q1⟩
   ·exact q2 u hu
theorem due_p (c : Cor) : DueP c (dueOf c) ∧ (dueOf c < 0 → ∀ t, t < c.threads.length → (nth c.threads t).state = 1 → c.now < (nth c.threads t).on) := by
 have h := due_fold c (List.range c.threads.length) (-1) (by simp) (.inl (by omega))
 refine ⟨h.1, fun h0 t ht hs => ?_⟩
 have := (h.2 h0).2 t (by simpa using ht)
 have : ¬ (nth c.threads t).on ≤ c.now := fun h => this ⟨hs, h⟩
 omega
structure TickI (p : Prog) (now0 : Int) (c : Cor) : Prop where
 inv : Inv p (-1) noD { c with now := now0 }
 now : 0 ≤ c.now ∧ c.now ≤ 1073741824
theorem tick_one {p : Prog} {now0 : Int} {c : Cor} (h : TickI p now0 c) {t : Int} (h0 : 0 ≤ t) (h1 : t < c.threads.length) (hs : (at' c.threads t).state = 1) : TickI p now0 (withT c t { at' c.threads t with state := 0, on := 0 }) := by
 obtain ⟨t, rfl⟩ : ∃ n : Nat, t = n := ⟨t.toNat, by omega⟩
 have ht : t < c.threads.length := by omega
 have hi := h.inv
 have hth := hi.thr t ht
 have hs' : (nth c.threads t).state = 1 := hs
 refine ⟨?_, h.now⟩
 refine hi.change (c' := { withT c t { at' c.threads (t : Int) with state := 0, on := 0 } with now := now0 }) ht (th := { nth c.threads t with state := 0, on := 0 }) rfl ⟨hi.len.owners, hi.len.counts, hi.len.bufs, hi.len.lockq, hi.len.waitq, hi.len.downq, hi.len.sendq, hi.len.recvq⟩ rfl (zero_i hth (by show (nth c.threads t).state ≠ 9; omega)) (.inl rfl) (.inl rfl)
  (fun _ => ⟨fun _ => rfl, fun h => by simp at h, fun h => by simp at h, fun h _ => by simp at h, fun h => by simp at h⟩) (fun e => by omega) (hi.join.set (by simp) (.inl (by simp))) (fun r' k' u hu => .inr hu) (fun r' k' u hk' hu => rfl) (fun r' k' hk' => ?_) ⟨hi.things.owners, hi.things.counts, hi.things.mutex, hi.things.sema, hi.things.chan⟩
 rw [if_neg (by omega), want0 (by simp) _ hk']
 have := hi.cnt r' k' t hk' ht
 rw [if_neg (by omega), want0 (by show (nth c.threads t).state < 3 ∨ _; omega) _ hk'] at this
 exact this
theorem tickL_r {p : Prog} {now0 : Int} : ∀ (n : Nat) (c : Cor) (w : List Int), c.threads.countP is1 < n → TickI p now0 c → Inv p (-1) noD (tickL n c w).1
 | 0, c, w, h, _ => by omega
 | n + 1, c, w, h, hi => by
  unfold tickL
  have hd := due_p c
  split
  ·rename_i h0
   have hd2 := hd.2 h0
   have hv := hi.inv
   exact ⟨⟨hv.len.owners, hv.len.counts, hv.len.bufs, hv.len.lockq, hv.len.waitq, hv.len.downq, hv.len.sendq, hv.len.recvq⟩, hi.now, hv.nthr, hv.thr, fun t ht hte => by
    have := hv.one t ht hte
    exact ⟨this.rest, fun hs => ⟨hd2 t ht hs, (this.sleep hs).2⟩, this.join, this.on, this.choice⟩, hv.exs, hv.join, hv.mem, hv.cnt, ⟨hv.things.owners, hv.things.counts, hv.things.mutex, hv.things.sema, hv.things.chan⟩⟩
  ·rename_i h0
   obtain ⟨q1, q2, q3, q4⟩ := hd.1.resolve_left h0
   refine tickL_r n _ _ ?_ (tick_one hi q1 q2 q3)
   have := countP_set' c.threads is1 { at' c.threads (dueOf c) with state := 0, on := 0 } (dueOf c).toNat (by omega)
   have e1 : is1 (nth c.threads (dueOf c).toNat) = true := by unfold is1; exact decide_eq_true q3
   have e2 : is1 { at' c.threads (dueOf c) with state := 0, on := 0 } = false := rfl
   rw [if_pos e1, e2, if_neg (by simp)] at this
   refine Nat.lt_of_le_of_lt (Nat.le_of_eq ?_) (show c.threads.countP is1 - 1 < n by omega)
   show (c.threads.set (dueOf c).toNat { at' c.threads (dueOf c) with state := 0, on := 0 }).countP is1 = _
   generalize (c.threads.set (dueOf c).toNat { at' c.threads (dueOf c) with state := 0, on := 0 }).countP is1 = z at *
   omega
theorem tickC_inv {p : Prog} {c : Cor} (h : Inv p (-1) noD c) (n : Int) : Inv p (-1) noD (tickC c n).1 := by
 unfold tickC
 refine tickL_r (now0 := c.now) _ _ _ ?_ ?_
 ·split
  ·show c.threads.countP is1 < _; have : c.threads.countP is1 ≤ c.threads.length := List.countP_le_length; omega
  ·have : c.threads.countP is1 ≤ c.threads.length := List.countP_le_length; omega
 ·split
  ·rename_i hn
   refine ⟨h, ?_⟩
   have hk := keep_in (c.now + (if 1073741824 < n then 1073741824 else n))
   have hnow := h.now
   refine ⟨?_, hk.2⟩
   show 0 ≤ keep (c.now + (if 1073741824 < n then 1073741824 else n))
   unfold keep
   split <;> split <;> (try split) <;> omega
  ·exact ⟨h, h.now⟩
theorem pickC_inv {p : Prog} (hp : MayP p) {c : Cor} (h : Inv p (-1) noD c) (k : Int) : Inv p (-1) noD (pickC p c k).1 := by
 unfold pickC
 split
 ·split
  ·exact tickC_inv h _
  ·exact h
 ·exact stepC_inv hp h _
theorem play_fold {p : Prog} (hp : MayP p) : ∀ (l : List Int) (a : Cor × List Evt), Inv p (-1) noD a.1 → Inv p (-1) noD (l.foldl (fun a k => ((pickC p a.1 k).1, a.2 ++ (pickC p a.1 k).2)) a).1
 | [], a, h => h
 | k :: l, a, h => by
  rw [List.foldl_cons]
  exact play_fold hp l _ (pickC_inv hp h k)
theorem playC_inv {p : Prog} (hp : MayP p) {c : Cor} (h : Inv p (-1) noD c) (l : List Int) : Inv p (-1) noD (playC p c l).1 := play_fold hp l (c, []) h
theorem nth_rep {α : Type} [Enc α] {n k : Nat} {x : α} (h : k < n) : nth (List.replicate n x) k = x := by rw [nth_eq (by simpa using h)]; simp
theorem nth_rep' (n k : Nat) : nth (List.replicate n ([] : List Int)) k = [] := by
 by_cases h : k < n
 ·exact nth_rep h
 ·exact nth_out (by simp; omega)
theorem coreNew_inv {p : Prog} (hp : MayP p) : Inv p (-1) noD (coreNew p) := by
 have hn := thrNew_i hp (f := 0) (by omega) (by have := hp.funcs; omega)
 have hrow : ∀ r k, rowOf (coreNew p) r k = [] := fun r k => by
  unfold rowOf coreNew
  simp only [nth_rep']
  repeat' split
  all_goals rfl
 have h1 : ∀ t, t < (coreNew p).threads.length → nth (coreNew p).threads t = thrNew p 0 := fun t ht => by
  have : t = 0 := by simp [coreNew] at ht; exact ht
  subst this; rfl
 have hthr := hp.threads
 refine ⟨⟨by simp [coreNew], rfl, by simp [coreNew], by simp [coreNew], by simp [coreNew], by simp [coreNew], by simp [coreNew], by simp [coreNew]⟩, by simp [coreNew], ⟨by simp [coreNew], by simp [coreNew]; omega⟩, fun t ht => by rw [h1 t ht]; exact hn, fun t ht _ => ?_, fun t _ e => by omega, fun k hk hs => ?_, fun r k t ht => by rw [hrow] at ht; simp at ht, fun r k t hk ht => ?_, ⟨fun k hk => ?_, fun k hk => ?_, fun k hk => .inl (nth_rep' _ _), fun k hk => .inr (nth_rep' _ _), fun k hk => ?_⟩⟩
 ·rw [h1 t ht]; exact ⟨fun _ => rfl, fun h => by simp [thrNew] at h, fun h => by simp [thrNew] at h, fun h => by simp [thrNew] at h, fun h => by simp [thrNew] at h⟩
 ·rw [h1 k hk] at hs; simp [thrNew] at hs
 ·rw [hrow, h1 t ht, if_neg (by omega), want0 (by simp [thrNew]) _ hk]; rfl
 ·have e : nth (coreNew p).owners k = -1 := nth_rep (by simpa [coreNew] using hk)
  rw [e]; simp [coreNew]
 ·have := hp.semas.2 (nth p.semas k) (nth_mem hk)
  show 0 ≤ nth p.semas k ∧ nth p.semas k ≤ _
  omega
 ·have e1 : nth (coreNew p).bufs k = [] := nth_rep' _ _
  have e2 : nth (coreNew p).sendq k = [] := nth_rep' _ _
  have e3 : nth (coreNew p).recvq k = [] := nth_rep' _ _
  rw [e1, e2, e3]
  have := hp.chans.2 (nth p.chans k) (nth_mem hk)
  exact ⟨.inl rfl, .inl rfl, by simp; omega, fun x hx => by simp at hx, rfl, fun i hi => by simp at hi⟩
end Go.Hb
end

section
namespace Go.Hb
open Go
def rowsC (c : Cor) (r : Int) : List (List Int) := if r = 3 then c.lockq else if r = 4 then c.waitq else if r = 5 then c.downq else if r = 7 then c.recvq else if r = 6 then c.sendq.map evens else []
theorem rowsC_nth (c : Cor) (r : Int) (k : Nat) : nth (rowsC c r) k = rowOf c r k := by
 unfold rowsC rowOf
 by_cases h3 : r = 3
 ·rw [if_pos h3, if_pos h3]
 rw [if_neg h3, if_neg h3]
 by_cases h4 : r = 4
 ·rw [if_pos h4, if_pos h4]
 rw [if_neg h4, if_neg h4]
 by_cases h5 : r = 5
 ·rw [if_pos h5, if_pos h5]
 rw [if_neg h5, if_neg h5]
 by_cases h7 : r = 7
 ·subst h7; simp
 rw [if_neg h7]
 by_cases h6 : r = 6
 ·rw [if_pos h6, if_pos h6]
  by_cases hk : k < c.sendq.length
  ·rw [nth_eq (by simpa using hk), nth_eq hk]; simp
  ·rw [nth_out (by simp; omega), nth_out (by omega)]; rfl
 ·rw [if_neg h6, if_neg h6, if_neg h7]; rfl
theorem rowsC_len {p : Prog} {c : Cor} (h : LenI p c) (r : Int) : (rowsC c r).length = nRows p r := by
 unfold rowsC nRows
 by_cases h3 : r = 3
 ·rw [if_pos h3, if_pos h3, h.lockq]
 rw [if_neg h3, if_neg h3]
 by_cases h4 : r = 4
 ·rw [if_pos h4, if_pos h4, h.waitq]
 rw [if_neg h4, if_neg h4]
 by_cases h5 : r = 5
 ·rw [if_pos h5, if_pos h5, h.downq]
 rw [if_neg h5, if_neg h5]
 by_cases h7 : r = 7
 ·subst h7; simp [h.recvq]
 rw [if_neg h7]
 by_cases h6 : r = 6
 ·rw [if_pos h6, if_pos (.inl h6), List.length_map, h.sendq]
 ·rw [if_neg h6, if_neg (by omega)]; rfl
def waitsC (st : Int) : Bool := decide (st ∈ [(3 : Int), 4, 5, 6, 7, 8])
def thingsC (p : Prog) (c : Cor) (st : Int) : Int := if st = 8 then p.choices.length else (rowsC c st).length
def onC (p : Prog) (c : Cor) (t : Thr) : Bool := !waitsC t.state || (decide (0 ≤ t.on) && decide (t.on < thingsC p c t.state))
def standsK (p : Prog) (c : Cor) (i : Int) (r : Int) (k : Nat) : Bool := !decide (1 < (nth (rowsC c r) k).count i) && (must p (at' c.threads i).state (at' c.threads i).on r k == decide ((nth (rowsC c r) k).count i = 1))
def standsR (p : Prog) (c : Cor) (i : Int) (r : Int) : Bool := (List.range (rowsC c r).length).all (standsK p c i r)
def standsC (p : Prog) (c : Cor) (i : Int) : Bool := onC p c (at' c.threads i) && [(3 : Int), 4, 5, 6, 7].all (standsR p c i)
def holdsC (p : Prog) (c : Cor) (r : Int) (i : Int) : Bool :=
 if r = 0 then !decide ((at' c.threads i).state ∈ [(0 : Int), 9]) || decide ((at' c.threads i).on = 0)
 else if r = 1 then !decide ((at' c.threads i).state ∈ [(1 : Int)]) || decide (c.now < (at' c.threads i).on)
 else if r = 2 then !decide ((at' c.threads i).state ∈ [(2 : Int)]) || (decide (0 ≤ (at' c.threads i).on) && decide ((at' c.threads i).on < c.threads.length) && decide ((at' c.threads i).on ≠ i) && !decide ((at' c.threads (at' c.threads i).on).state ∈ [(9 : Int)]))
 else if r = 3 then onC p c (at' c.threads i)
 else if r = 4 then standsC p c i
 else if r = 5 then decide ((at' c.lockq i).length = 0) || decide (at' c.owners i ≠ -1)
 else if r = 6 then decide (at' c.counts i = 0) || decide ((at' c.downq i).length = 0)
 else (decide ((at' c.recvq i).length = 0) || decide ((at' c.bufs i).length + (at' c.sendq i).length = 0)) && (decide ((at' c.sendq i).length = 0) || decide (((at' c.bufs i).length : Int) = at' p.chans i))
def placesC (c : Cor) (r : Int) : Nat := if r ≤ 4 then c.threads.length else if r = 5 then c.owners.length else if r = 6 then c.counts.length else c.bufs.length
def ruleC (p : Prog) (c : Cor) (r : Int) : Int × Bool :=
 if r < 0 ∨ 8 ≤ r then (-1, true) else match (List.range (placesC c r)).find? fun (i : Nat) => !holdsC p c r i with | some i => (i, false) | none => (-1, true)
def firstC (p : Prog) (c : Cor) : Int × Int := match (List.range 8).find? fun (r : Nat) => !(ruleC p c r).2 with | some r => (r, (ruleC p c r).1) | none => (-1, -1)
def fitsC (p : Prog) (c : Cor) : Bool := decide ((firstC p c).1 = -1)
structure ShC (p : Prog) (c : Cor) : Prop where
 b : CorB c
 len : LenI p c
 even : ∀ k, k < c.sendq.length → (nth c.sendq k).length % 2 = 0
 choices : p.choices.length ≤ 8 ∧ ∀ l ∈ p.choices, l.length ≤ 8
theorem Inv.shC {p : Prog} {ex : Int} {D : Nat → Int → Prop} {c : Cor} (h : Inv p ex D c) (hp : MayP p) : ShC p c :=
 ⟨h.corB hp, h.len, fun k hk => (h.things.chan k (by rw [← h.len.sendq]; exact hk)).even, ⟨hp.choices.1, fun l hl => (hp.choices.2 l hl).2.2.1⟩⟩
theorem ShC.rows {p : Prog} {c : Cor} (h : ShC p c) (r : Int) : RowsB (rowsC c r) := by
 unfold rowsC
 split
 ·exact h.b.lockq
 split
 ·exact h.b.waitq
 split
 ·exact h.b.downq
 split
 ·exact h.b.recvq
 split
 ·refine ⟨by simpa using h.b.sendq.1, fun l hl => ?_⟩
  obtain ⟨q, hq, rfl⟩ := List.mem_map.1 hl
  have h1 := h.b.sendq.2 q hq
  obtain ⟨k, hk, rfl⟩ := List.getElem_of_mem hq
  have h2 := h.even k hk
  rw [nth_eq hk] at h2
  have := evens_len h2
  omega
 ·exact ⟨by simp, by simp⟩
theorem onC_of {p : Prog} {c : Cor} (hl : LenI p c) {t : Thr} (h : OneI p c.now t) : onC p c t = true := by
 unfold onC waitsC thingsC
 by_cases h8 : t.state = 8
 ·have := h.choice h8
  simp [h8]; omega
 ·by_cases h3 : 3 ≤ t.state ∧ t.state ≤ 7
  ·have := h.on h3.1 h3.2
   rw [rowsC_len hl, if_neg h8]
   simp; right; exact this
  ·have : t.state ∉ [(3 : Int), 4, 5, 6, 7, 8] := by simp; omega
   simp only [this, decide_false, Bool.not_false, Bool.true_or]
theorem stands_of {p : Prog} {D : Nat → Int → Prop} {c : Cor} (h : Inv p (-1) D c) {i : Nat} (hi : i < c.threads.length) : standsC p c i = true := by
 unfold standsC
 have h1 : at' c.threads (i : Int) = nth c.threads i := rfl
 rw [h1, onC_of h.len (h.one i hi (by omega)), Bool.true_and, List.all_eq_true]
 intro r _
 unfold standsR
 rw [List.all_eq_true]
 intro k hk
 have hk' : k < nRows p r := by rw [← rowsC_len h.len]; simpa using hk
 unfold standsK
 rw [rowsC_nth, h.cnt r k i hk' hi, if_neg (by omega), h1]
 unfold want
 cases must p (nth c.threads i).state (nth c.threads i).on r k <;> simp
theorem holds_of {p : Prog} {c : Cor} (h : Inv p (-1) noD c) {r : Int} (hr0 : 0 ≤ r) (hr : r < 8) {i : Nat} (hi : i < placesC c r) : holdsC p c r i = true := by
 unfold placesC at hi
 have hthr : r ≤ 4 → i < c.threads.length := fun h4 => by rw [if_pos h4] at hi; exact hi
 have h1 : at' c.threads (i : Int) = nth c.threads i := rfl
 have hone : r ≤ 4 → OneI p c.now (nth c.threads i) := fun h4 => h.one i (hthr h4) (by omega)
 unfold holdsC
 rw [h1]
 by_cases e0 : r = 0
 ·rw [if_pos e0]
  have := (hone (by omega)).rest
  by_cases hs : (nth c.threads i).state ∈ [(0 : Int), 9]
  ·have : (nth c.threads i).on = 0 := this (by simpa using hs)
   simp [this]
  ·simp [hs]
 rw [if_neg e0]
 by_cases e1 : r = 1
 ·rw [if_pos e1]
  have := (hone (by omega)).sleep
  by_cases hs : (nth c.threads i).state = 1
  ·have := this hs
   simp [this]
  ·simp [hs]
 rw [if_neg e1]
 by_cases e2 : r = 2
 ·rw [if_pos e2]
  by_cases hs : (nth c.threads i).state = 2
  ·have := h.join i (hthr (by omega)) hs
   have h4 := this.2.2.2.resolve_right id
   simp [this, h4]
  ·simp [hs]
 rw [if_neg e2]
 by_cases e3 : r = 3
 ·rw [if_pos e3]; exact onC_of h.len (hone (by omega))
 rw [if_neg e3]
 by_cases e4 : r = 4
 ·rw [if_pos e4]; exact stands_of h (hthr (by omega))
 rw [if_neg e4]
 by_cases e5 : r = 5
 ·rw [if_pos e5]
  rw [if_neg (by omega), if_pos e5] at hi
  have := h.things.mutex i hi
  unfold at'
  rcases this with h | h
  ·simp [h]
  ·simp [h]
 rw [if_neg e5]
 by_cases e6 : r = 6
 ·rw [if_pos e6]
  rw [if_neg (by omega), if_neg e5, if_pos e6] at hi
  have := h.things.sema i hi
  unfold at'
  rcases this with h | h
  ·simp [h]
  ·simp [h]
 rw [if_neg e6]
 rw [if_neg (by omega), if_neg e5, if_neg e6, h.len.bufs] at hi
 have := h.things.chan i hi
 unfold at'
 simp only [Int.toNat_natCast, Bool.and_eq_true, Bool.or_eq_true, decide_eq_true_eq]
 refine ⟨this.recv.imp (fun e => by rw [e]; rfl) (fun e => by rw [e.1, e.2]; rfl), this.send.imp (fun e => by rw [e]; rfl) id⟩
theorem rule_of {p : Prog} {c : Cor} (h : Inv p (-1) noD c) (r : Int) : ruleC p c r = (-1, true) := by
 unfold ruleC
 split
 ·rfl
 ·have : (List.range (placesC c r)).find? (fun (i : Nat) => !holdsC p c r i) = none := by
   rw [List.find?_eq_none]
   intro i hi
   have := holds_of h (r := r) (by omega) (by omega) (i := i) (by simpa using hi)
   simp [this]
  rw [this]
theorem fits_of {p : Prog} {c : Cor} (h : Inv p (-1) noD c) : firstC p c = (-1, -1) := by
 unfold firstC
 have : (List.range 8).find? (fun (r : Nat) => !(ruleC p c r).2) = none := by
  rw [List.find?_eq_none]
  intro r _
  rw [rule_of h]; simp
 rw [this]
end Go.Hb
end

section
namespace Go.Hb
open Go
def LV.flat : LV → Bool
 | .bool _ | .int .. | .str _ | .nilp | .nils | .nilf | .nilm => true
 | .tup [.int .., .int ..] => true
 | .tup [.int .., .bool _] => true
 | .tup [.bool _] => true
 | _ => false
theorem flat_rel {C C' : Ctx} {x : LV} {v : Value} (hf : x.flat = true) (h : RelV C x v) : RelV C' x v := by
 unfold LV.flat at hf
 split at hf <;> first | (simpa [RelV, RelVs] using h) | cases hf
def lentB (C : Ctx) (b : Nat) : Prop := ∃ i, i < C.n ∧ C.ρ i = b
def Ctx.lend (C : Ctx) (s : List AObj) : Ctx := { C.deep s 0 with kept := fun b => C.kept b ∨ lentB C b }
theorem Ok.lend {C : Ctx} {s : List AObj} (h : Ok C s) : Ok (C.lend s) [] where
 n := rfl
 obj i o ho := by simp at ho
 inj i j hi _ _ := absurd hi (Nat.not_lt_zero _)
 own i hi := absurd hi (Nat.not_lt_zero _)
 tip g hg := by
  obtain ⟨a, b, c⟩ := h.tip g hg
  refine ⟨?_, ?_, c⟩
  ·rintro (hk | ⟨i, hi, e⟩)
   ·exact a hk
   ·exact h.tipown g i hg hi e
  ·show (C.deep s 0).lim (C.θ g).b ≤ _
   simp only [Ctx.deep]
   rw [if_neg]
   ·exact b
   ·intro hfz; obtain ⟨j, L, j1, j2, j3, j4, j5⟩ := frozen_iff.1 hfz
    exact h.tipown g j hg j2 j3
 tipinj := h.tipinj
 tipown g i _ hi := absurd hi (Nat.not_lt_zero _)
 kept b hb := by
  rcases hb with hb | ⟨i, hi, e⟩
  ·exact h.kept b hb
  ·rw [← e]; exact (h.own i hi).2.2
 lim b hb := by
  show (C.deep s 0).lim b = 0
  have hb' : C.w.heap.size ≤ b := hb
  simp only [Ctx.deep]
  rw [if_neg]
  ·exact h.lim b hb'
  ·intro hfz; obtain ⟨j, L, j1, j2, j3, j4, j5⟩ := frozen_iff.1 hfz
   have := (h.own j j2).2.2
   omega
open Classical in
noncomputable def Ctx.home (C C1 : Ctx) : Ctx := { C1 with kept := C.kept, n := C.n, ρ := C.ρ, lim := fun b => if lentB C b then C.lim b else C1.lim b }
theorem Ret.lend {P : Program} {f : FuncId} {args args' : List LV} {s : List AObj} {y : LV} (h : PureC P f args' y) (hf : y.flat = true) (ha : DeepVs s 0 args args') : Ret P f args s y := fun v => by
 classical
 refine ⟨(h [] v).1, fun C vs h1 h2 h3 => ?_⟩
 refine ((h [] v).2 (C.lend s) vs h1.lend h2 (RelVs.wmono (⟨fun _ => Nat.le_refl _, fun _ _ _ => rfl, fun _ _ => rfl, Nat.le_refl _, fun _ e h => ⟨e, h, Nat.le_refl _, fun _ => rfl⟩, fun _ => Nat.le_refl _⟩ : (C.deep s 0).wle (C.lend s)) _ _ (ha.rel h1 h3))).mono ?_
 rintro e w' ⟨C1, x, u, s', v', k1, k2, k3, k4, k5, k6, e1, e2, e3⟩
 subst e1; subst e2
 have hle0 : ∀ b, C.lim b ≤ C1.lim b := fun b => Nat.le_trans (deep_lim h1 b) (k3.lim b)
 have hcell : ∀ b o, o < C.lim b → C1.w.cell? ⟨b, o, none⟩ = C.w.cell? ⟨b, o, none⟩ := fun b o ho => k3.cell b o (Nat.lt_of_lt_of_le ho (deep_lim h1 b))
 have hlent : ∀ b, lentB C b → C1.kept b := fun b hb => k3.kept b (.inr hb)
 have hheap : ∀ b, lentB C b → C1.w.heap[b]? = C.w.heap[b]? := fun b hb => k3.keep b (.inr hb)
 have hle : C.le (C.home C1) := by
  refine ⟨k3.os, k3.tape, k3.output, k3.size, fun b hb => hb, fun b hb => k3.keep b (.inl hb), fun b => ?_, hcell, fun i _ => rfl, Nat.le_refl _, k3.τ, k3.room, k3.drawn⟩
  simp only [Ctx.home]
  by_cases hb : lentB C b
  ·rw [if_pos hb]; exact Nat.le_refl _
  ·rw [if_neg hb]; exact hle0 b
 refine ⟨C.home C1, y, u, s, v', k1, k2, hle, ?_, k5, flat_rel hf k6, rfl, rfl, e3⟩
 refine ⟨h1.n, fun i o ho => ?_, h1.inj, fun i hi => ?_, fun g hg => ?_, k4.tipinj, fun g i hg hi e => ?_, fun b hb => ?_, fun b hb => ?_⟩
 ·have hi : i < C.n := by rw [h1.n]; exact (List.getElem?_eq_some_iff.1 ho).1
  exact RelO.mono hle (hheap _ ⟨i, hi, rfl⟩) (h1.obj i o ho)
 ·obtain ⟨a, b, c⟩ := h1.own i hi
  refine ⟨a, ?_, Nat.lt_of_lt_of_le c k3.size⟩
  refine b.imp id fun hl => ?_
  simp only [Ctx.home]
  rw [if_pos ⟨i, hi, rfl⟩]; exact hl
 ·obtain ⟨a, b, c⟩ := k4.tip g hg
  have hnl : ¬ lentB C (C1.θ g).b := fun hb => a (hlent _ hb)
  refine ⟨fun hk => a (k3.kept _ (.inl hk)), ?_, c⟩
  simp only [Ctx.home]
  rw [if_neg hnl]; exact b
 ·obtain ⟨a, _, _⟩ := k4.tip g hg
  exact a (hlent _ ⟨i, hi, e⟩)
 ·exact Nat.lt_of_lt_of_le (h1.kept b hb) k3.size
 ·have hb' : C1.w.heap.size ≤ b := hb
  have hnl : ¬ lentB C b := fun ⟨i, hi, e⟩ => by
   have := (h1.own i hi).2.2
   have := k3.size
   have e2 : (C.lend s).w.heap.size = C.w.heap.size := rfl
   omega
  simp only [Ctx.home]
  rw [if_neg hnl]
  exact k4.lim b hb'
end Go.Hb
end

section
namespace Go.Hb
open Go
end Go.Hb
end

section
namespace Go.Hb
open Go
theorem own_grow {P : Program} {t t2 : TypeId} {sz by_ : Nat} (hok : appOk P t t2 sz by_ = true) (hsz : 0 < sz) (hby : by_ ≤ 1000) {S : List AObj} {n id : Nat} {cs ds : List LV} {x y : LV} (h : RowR S sz n cs x id) (hy0 : aCells sz y S = some (ds, 1)) (hd : ds.length = sz) (b : n + 1 ≤ 100000000) :
  aAppendOwn P t t2 x y S = some (.ref sz S.length 0 (n + 1) false, (if n = 0 then S else S.set id (.cells [])) ++ [.cells (cs ++ ds)]) := by
 have hm : (n + 1) * by_ ≤ 100000000 * 1000 := Nat.mul_le_mul b hby
 have hml : n + 1 ≤ maxLen := by unfold maxLen; omega
 unfold appOk at hok
 split at hok
 rotate_left
 ·cases hok
 rename_i e hu
 simp only [Bool.and_eq_true] at hok
 obtain ⟨⟨⟨hs, hb⟩, hn⟩, hz⟩ := hok
 cases hs' : szT P e with
 | none => rw [hs'] at hs; cases hs
 | some s' =>
 rw [hs'] at hs; simp at hs; subst hs
 cases hb' : bytesT P e with
 | none => rw [hb'] at hb; cases hb
 | some b' =>
 rw [hb'] at hb; simp at hb; subst hb
 cases hz' : zeroT P e with
 | none => rw [hz'] at hz; cases hz
 | some z =>
 rw [hz'] at hz; simp only [Bool.and_eq_true, beq_iff_eq] at hz
 have hy : aCells s' y S = some (ds, 1) := hy0
 have hnil : aAppendNil P t t2 x y S = false := by
  unfold aAppendNil
  simp only [hu, hs', hy]
  simp
 have hds : 0 < ds.length := by omega
 unfold aAppendOwn
 rw [if_neg (by rw [hnil]; simp)]
 rcases h with ⟨rfl, rfl, rfl⟩ | ⟨h1, h1c, rfl, h2, h3⟩
 ·simp only [if_true]
  unfold aAppendNew
  simp only [hu, hs', hb', hz', hy]
  rw [if_pos ⟨hn, hz.1, hz.2⟩]
  simp only [aHead]
  rw [if_pos ⟨by omega, by omega, by omega⟩]
 ·rw [if_neg h1]
  unfold aAppendRef
  simp only [hu, hs', hb', hz', hy, h2]
  rw [if_pos ⟨hn, hz.1, hz.2⟩]
  have htk : cs.take (n * s') = cs := List.take_of_length_le (by omega)
  rw [if_pos ⟨by trivial, by trivial, by omega, hml, by omega, hds, h1c⟩, htk]
theorem thr_step {P : Program} {t t2 : TypeId} {by_ : Nat} (hok : appOk P t t2 5 by_ = true) (hby : by_ ≤ 1000) {s J : List AObj} {a b : AObj} {k d : Nat} {xs ds : List LV} {x : LV} (hr : RowR (s ++ (a :: b :: J)) 5 k xs x (s.length + (d + 2))) (hd : k ≠ 0 → d < J.length) (hds : ds.length = 5) (hk : k + 1 ≤ 100000000) :
  ∃ J2, (∀ y, aCells 5 y (s ++ (a :: b :: (J ++ [.cells ds]))) = some (ds, 1) → aAppendOwn P t t2 x y (s ++ (a :: b :: (J ++ [.cells ds]))) = some (.ref 5 (s.length + (J.length + 1 + 2)) 0 (k + 1) false, s ++ (a :: b :: J2))) ∧ RowR (s ++ (a :: b :: J2)) 5 (k + 1) (xs ++ ds) (.ref 5 (s.length + (J.length + 1 + 2)) 0 (k + 1) false) (s.length + (J.length + 1 + 2)) ∧ J2.length = J.length + 2 := by
 have hr2 : RowR (s ++ (a :: b :: (J ++ [.cells ds]))) 5 k xs x (s.length + (d + 2)) := hr.keep fun h0 => by
  rw [layB_get, layB_get, List.getElem?_append_left (hd h0)]
 have hxl : xs.length = k * 5 := by
  rcases hr with ⟨h1, h2, _⟩ | ⟨_, _, _, _, h⟩
  ·rw [h1, h2]; rfl
  ·exact h
 have hl : (if k = 0 then J ++ [AObj.cells ds] else (J ++ [AObj.cells ds]).set d (.cells [])).length = J.length + 1 := by split <;> simp
 refine ⟨(if k = 0 then J ++ [AObj.cells ds] else (J ++ [AObj.cells ds]).set d (.cells [])) ++ [AObj.cells (xs ++ ds)], fun y hy => ?_, .inr ⟨by omega, (by intro h; simp at h; rw [h.2] at hds; cases hds), rfl, ?_, ?_⟩, ?_⟩
 ·rw [own_grow (by_ := by_) hok (by omega) hby hr2 hy hds hk]
  have e1 : (s ++ (a :: b :: (J ++ [AObj.cells ds]))).length = s.length + (J.length + 1 + 2) := by simp
  rw [e1]
  congr 2
  by_cases h0 : k = 0
  ·rw [if_pos h0, if_pos h0]; simp
  ·rw [if_neg h0, if_neg h0, set_app, List.set_cons_succ, List.set_cons_succ]; simp
 ·rw [layB_get, List.getElem?_append_right (by omega), hl]; simp
 ·rw [List.length_append, hxl, hds]; omega
 ·rw [List.length_append, hl]; rfl
end Go.Hb
end

section
namespace Go.Hb
open Go
theorem rowCs_thr (x : Thr) (l : List Thr) : rowCs (x :: l) = .int .i64 x.state :: .int .i64 x.on :: row x.frames :: row x.stack :: .int .i64 x.code :: rowCs l := rfl
theorem rowCs_st (a : Int) : ∀ (l : List Thr) {k : Nat}, k < l.length → (rowCs l).set (k * 5) (.int .i64 a) = rowCs (l.set k { nth l k with state := a })
 | x :: l, 0, _ => rfl
 | x :: l, k + 1, h => by
  have ih := rowCs_st a l (k := k) (by simpa using h)
  rw [show (k + 1) * 5 = k * 5 + 1 + 1 + 1 + 1 + 1 by omega, rowCs_thr]
  simp only [List.set_cons_succ]
  rw [ih]; rfl
theorem rowCs_on (a : Int) : ∀ (l : List Thr) {k : Nat}, k < l.length → (rowCs l).set (k * 5 + 1) (.int .i64 a) = rowCs (l.set k { nth l k with on := a })
 | x :: l, 0, _ => rfl
 | x :: l, k + 1, h => by
  have ih := rowCs_on a l (k := k) (by simpa using h)
  rw [show (k + 1) * 5 + 1 = k * 5 + 1 + 1 + 1 + 1 + 1 + 1 by omega, rowCs_thr]
  simp only [List.set_cons_succ]
  rw [ih]; rfl
theorem own_nil_r {P : Program} {t t2 : TypeId} (hok : appOk P t t2 1 8 = true) {l : List Int} (hb : l.length ≤ 10000000) (s J : List AObj) (a b : AObj) :
  ∃ x J', aAppendOwn P t t2 .nils (row l) (s ++ (a :: b :: J)) = some (x, s ++ (a :: b :: (J ++ J'))) ∧ (x.cells = [x] ∧ x.cellsOk = true) ∧ ∀ (a' b' : AObj) (K : List AObj), RowR (s ++ (a' :: b' :: (J ++ (J' ++ K)))) 1 l.length (rowCs l) x (s.length + (J.length + 2)) := by
 obtain ⟨x, J', ha, hJ⟩ := own_nil (P := P) (t := t) (t2 := t2) (sz := 1) (by_ := 8) hok rfl (by omega) (l := l) (by unfold maxLen; omega) (by omega) (s ++ (a :: b :: J))
 have hr : ∀ (a' b' : AObj) (K : List AObj), RowR (s ++ (a' :: b' :: (J ++ (J' ++ K)))) 1 l.length (rowCs l) x (s.length + (J.length + 2)) := by
  intro a' b' K
  rcases hJ with ⟨rfl, rfl, rfl⟩ | ⟨e1, rfl, rfl⟩
  ·exact .inl ⟨rfl, rfl, rfl⟩
  ·have hl1 : l.length ≠ 0 := fun e => e1 (List.length_eq_zero_iff.1 e)
   have e2 : (s ++ (a :: b :: J)).length = s.length + (J.length + 2) := by simp
   rw [e2]
   refine .inr ⟨hl1, rowCs_ne (by simp) e1, rfl, ?_, by rw [rowCs_len]; simp⟩
   rw [layB_get, List.getElem?_append_right (Nat.le_refl _)]; simp
 exact ⟨x, J', by rw [ha]; simp, (hr a b []).cells, hr⟩
def CloR (c : Cor) (s : List AObj) (v : List Nat) (x : LV) (s' : List AObj) (v' : List Nat) : Prop :=
 ∃ J d xO xC dO dC, s ++ J = s' ∧ J[d]? = some (.cells (rowCs c.threads)) ∧ RowR (s ++ J) 1 c.owners.length (rowCs c.owners) xO (s.length + dO) ∧ RowR (s ++ J) 1 c.counts.length (rowCs c.counts) xC (s.length + dC) ∧ dO ≠ d ∧ (dC ≠ d ∧ (c.owners.length ≠ 0 → dO ≠ dC)) ∧ v <+: v' ∧
  x = .agg [.int .i64 c.now, .ref 5 (s.length + d) 0 c.threads.length false, xO, xC, row c.bufs, row c.lockq, row c.waitq, row c.downq, row c.sendq, row c.recvq]
end Go.Hb
end

section
namespace Go.Hb
open Go
structure ShD (p : Prog) (c : Cor) : Prop where
 sh : ShC p c
 mu : 0 ≤ p.mutexes
 own : ∀ k, k < c.owners.length → -1 ≤ nth c.owners k
def on18 (p : Prog) (st on : Int) : Bool :=
 if st = 3 then decide (0 ≤ on) && decide (on < p.mutexes) else if st = 4 then decide (0 ≤ on) && decide (on < p.conds.length) else if st = 5 then decide (0 ≤ on) && decide (on < p.semas.length)
 else if st = 6 ∨ st = 7 then decide (0 ≤ on) && decide (on < p.chans.length) else if st = 8 then decide (0 ≤ on) && decide (on < p.choices.length) else true
def kind18 (L : List (List Int)) (st on t r : Int) : Bool := (List.range L.length).all fun k => decide (((nth L k).count t : Int) = if st = r ∧ on = k then 1 else 0)
def rec18 (p : Prog) (c : Cor) (st on t : Int) : Bool := (List.range c.recvq.length).all fun k => decide (((nth c.recvq k).count t : Int) = if (st = 7 ∧ on = k) ∨ (st = 8 ∧ (k : Int) ∈ at' p.choices on) then 1 else 0)
def stands18 (p : Prog) (c : Cor) (st on t : Int) : Bool := on18 p st on && (kind18 c.lockq st on t 3 && kind18 c.waitq st on t 4 && kind18 c.downq st on t 5 && kind18 (c.sendq.map evens) st on t 6 && rec18 p c st on t)
theorem onC_18 {p : Prog} {c : Cor} (h : ShD p c) (t : Thr) : onC p c t = on18 p t.state t.on := by
 obtain ⟨st, on, fr, sk, co⟩ := t
 have hm := h.mu
 have hl := rowsC_len h.sh.len
 unfold onC on18 waitsC thingsC
 rw [hl]
 simp only [nRows]
 by_cases e3 : st = 3
 ·subst e3; simp [Int.toNat_of_nonneg hm]
 by_cases e4 : st = 4
 ·subst e4; simp
 by_cases e5 : st = 5
 ·subst e5; simp
 by_cases e6 : st = 6
 ·subst e6; simp
 by_cases e7 : st = 7
 ·subst e7; simp
 by_cases e8 : st = 8
 ·subst e8; simp
 simp [e3, e4, e5, e6, e7, e8]
theorem standsK_18 (p : Prog) (c : Cor) (i r : Int) (k : Nat) : standsK p c i r k = decide (((nth (rowsC c r) k).count i : Int) = if must p (at' c.threads i).state (at' c.threads i).on r k = true then 1 else 0) := by
 unfold standsK
 cases must p (at' c.threads i).state (at' c.threads i).on r k
 ·rw [Bool.eq_iff_iff]; simp; omega
 ·rw [Bool.eq_iff_iff]; simp; omega
theorem kind_18 {p : Prog} {c : Cor} {i r : Int} {L : List (List Int)} (hr : r ≠ 7) (hL : rowsC c r = L) : standsR p c i r = kind18 L (at' c.threads i).state (at' c.threads i).on i r := by
 unfold standsR kind18
 rw [hL]
 congr 1
 funext k
 rw [standsK_18, hL]
 unfold must
 simp [hr]
theorem rec_18 {p : Prog} {c : Cor} {i : Int} : standsR p c i 7 = rec18 p c (at' c.threads i).state (at' c.threads i).on i := by
 have hL : rowsC c 7 = c.recvq := rfl
 unfold standsR rec18
 rw [hL]
 congr 1
 funext k
 rw [standsK_18, hL]
 unfold must
 simp
theorem stands_18 {p : Prog} {c : Cor} (h : ShD p c) (i : Int) : standsC p c i = stands18 p c (at' c.threads i).state (at' c.threads i).on i := by
 unfold standsC stands18
 rw [onC_18 h]
 simp only [List.all_cons, List.all_nil, Bool.and_true]
 rw [rec_18, kind_18 (r := 3) (by omega) rfl, kind_18 (r := 4) (by omega) rfl, kind_18 (r := 5) (by omega) rfl, kind_18 (r := 6) (by omega) rfl]
 simp only [rowsC, if_true, if_false, show ¬ ((4 : Int) = 3) by omega, show ¬ ((5 : Int) = 3) by omega, show ¬ ((5 : Int) = 4) by omega, show ¬ ((6 : Int) = 3) by omega, show ¬ ((6 : Int) = 4) by omega, show ¬ ((6 : Int) = 5) by omega, show ¬ ((6 : Int) = 7) by omega, Bool.and_assoc]
theorem all_at {n : Nat} {f : Nat → Bool} {k : Nat} (h : k < n) (hf : f k = false) : (List.range n).all f = false := by
 rw [Bool.eq_false_iff]
 intro h1
 rw [List.all_eq_true] at h1
 have := h1 k (by simpa using h)
 rw [hf] at this; cases this
theorem all_all {n : Nat} {f : Nat → Bool} (h : ∀ k, k < n → f k = true) : (List.range n).all f = true := by
 rw [List.all_eq_true]
 intro k hk
 exact h k (by simpa using hk)
end Go.Hb
end

section
namespace Go.Hb
open Go
def betC (l : List Int) (a b : Int) : Bool := l.all fun x => !(decide (x < a) || decide (b < x))
def keptK (l : List Int) : Bool := betC l (-1073741824) 1073741824
def frmK (p : Prog) (f : Frm) : Bool :=
 if f.func < 0 ∨ (p.funcs.length : Int) ≤ f.func then false
 else decide (0 ≤ f.pc) && (decide (f.pc ≤ (nth p.funcs f.func.toNat).code.length) && (decide ((f.locals.length : Int) = (nth p.funcs f.func.toNat).locals) && keptK f.locals))
def thrK0 (t : Thr) : Bool := decide (t.state < 0) || decide (9 < t.state) || decide (t.code < 0) || decide (6 < t.code) || decide (8 < t.frames.length) || decide (16 < t.stack.length) || !keptK t.stack || !decide (t.on = keep t.on)
def thrK (p : Prog) (t : Thr) : Bool :=
 if thrK0 t = true then false else if t.frames.all (frmK p) = false then false
 else if t.state = 9 then decide (t.frames.length = 0) && decide (t.stack.length = 0) else decide (0 < t.frames.length) && decide (t.code = 0)
def rowK (t : Int) (l : List Int) : Bool := betC l 0 (t - 1) && !decide (32 < l.length)
def rowsK (L : List (List Int)) (n t : Int) : Bool := if (L.length : Int) = n then L.all (rowK t) else false
def sendK (t : Int) (l : List Int) (k : Nat) : Bool := !(decide (nth l (2 * k) < 0) || decide (t ≤ nth l (2 * k)) || !decide (nth l (2 * k + 1) = keep (nth l (2 * k + 1))))
def chK0 (p : Prog) (c : Cor) (i : Nat) : Bool := !betC (nth c.bufs i) (-1073741824) 1073741824 || decide (nth p.chans i < (nth c.bufs i).length) || decide (64 < (nth c.sendq i).length) || !decide ((nth c.sendq i).length % 2 = 0)
def chK (p : Prog) (c : Cor) (i : Nat) : Bool := if chK0 p c i = true then false else (List.range ((nth c.sendq i).length / 2)).all (sendK c.threads.length (nth c.sendq i))
def chansK (p : Prog) (c : Cor) : Bool :=
 if c.bufs.length = p.chans.length ∧ c.sendq.length = p.chans.length ∧ rowsK c.recvq p.chans.length c.threads.length = true then (List.range p.chans.length).all (chK p c) else false
def shapeK0 (e : Int) (p : Prog) (c : Cor) : Bool := decide (e < 0) || decide (1073741824 < e) || decide (c.now < 0) || decide (1073741824 < c.now) || decide (c.threads.length < 1) || decide (p.threads < c.threads.length)
def shapeK (e : Int) (p : Prog) (c : Cor) : Bool :=
 if shapeK0 e p c = true then false else if c.threads.all (thrK p) = false then false
 else betC c.owners (-1) (c.threads.length - 1) && (betC c.counts 0 1073741824 && (rowsK c.lockq p.mutexes c.threads.length && (rowsK c.waitq p.conds.length c.threads.length && (rowsK c.downq p.semas.length c.threads.length && (decide ((c.owners.length : Int) = p.mutexes) && (decide (c.counts.length = p.semas.length) && chansK p c))))))
section
variable {α : Type} [Enc α] {l : List α} {f : α → Bool}
theorem allN_f {k : Nat} (h : k < l.length) (hf : f (nth l k) = false) : l.all f = false := by
 rw [Bool.eq_false_iff]
 intro h1
 rw [List.all_eq_true] at h1
 have := h1 _ (nth_mem h)
 rw [hf] at this; cases this
theorem allN_t (h : ∀ k, k < l.length → f (nth l k) = true) : l.all f = true := by
 rw [List.all_eq_true]
 intro x hx
 obtain ⟨i, hi, rfl⟩ := List.getElem_of_mem hx
 have := h i hi
 rw [nth_eq hi] at this
 exact this
end
theorem betC_in {l : List Int} {a b : Int} (h : betC l a b = true) : ∀ x ∈ l, a ≤ x ∧ x ≤ b := fun x hx => by
 have := List.all_eq_true.1 h x hx
 simp at this; exact this
theorem rowsK_b {L : List (List Int)} {n t : Int} (h : rowsK L n t = true) : (L.length : Int) = n ∧ ∀ l ∈ L, l.length ≤ 32 := by
 unfold rowsK at h
 split at h
 ·rename_i e
  refine ⟨e, fun l hl => ?_⟩
  have := List.all_eq_true.1 h l hl
  unfold rowK at this
  simp at this
  exact this.2
 ·cases h
theorem shapeK_d {e : Int} {p : Prog} {c : Cor} (hp : MayP p) (h : shapeK e p c = true) : ShD p c := by
 unfold shapeK at h
 split at h
 ·cases h
 rename_i h0
 split at h
 ·cases h
 simp only [Bool.and_eq_true, decide_eq_true_eq] at h
 obtain ⟨h1, h2, h3, h4, h5, h6, h7, h8⟩ := h
 obtain ⟨l1, l2⟩ := rowsK_b h3
 obtain ⟨w1, w2⟩ := rowsK_b h4
 obtain ⟨d1, d2⟩ := rowsK_b h5
 unfold chansK at h8
 split at h8
 rotate_left
 ·cases h8
 rename_i hc
 obtain ⟨c1, c2, c3⟩ := hc
 obtain ⟨r1, r2⟩ := rowsK_b c3
 have hm := hp.mutexes
 have hcn := hp.conds.1
 have hse := hp.semas.1
 have hch := hp.chans.1
 have hth := hp.threads.2
 have hch2 := hp.chans.2
 simp only [shapeK0, Bool.or_eq_true, decide_eq_true_eq, not_or] at h0
 have hk : ∀ i, i < p.chans.length → chK0 p c i = false := fun i hi => by
  have := List.all_eq_true.1 h8 i (by simpa using hi)
  unfold chK at this
  split at this
  ·cases this
  ·rename_i hh; simpa using hh
 have hbs : ∀ i, i < p.chans.length → (nth c.bufs i).length ≤ 8 ∧ (nth c.sendq i).length ≤ 64 ∧ (nth c.sendq i).length % 2 = 0 := fun i hi => by
  have h1 := hk i hi
  unfold chK0 at h1
  simp only [Bool.or_eq_false_iff, Bool.not_eq_false', decide_eq_false_iff_not, decide_eq_true_eq] at h1
  have h2 := hch2 _ (nth_mem hi)
  omega
 refine ⟨⟨⟨by omega, by omega, by omega, ⟨by omega, fun l hl => ?_⟩, ⟨by omega, fun l hl => by have := l2 l hl; omega⟩, ⟨by omega, fun l hl => by have := w2 l hl; omega⟩, ⟨by omega, fun l hl => by have := d2 l hl; omega⟩, ⟨by omega, fun l hl => ?_⟩, ⟨by omega, fun l hl => by have := r2 l hl; omega⟩⟩,
  ⟨by omega, by omega, by omega, by omega, by omega, by omega, by omega, by omega⟩, fun k hk => ?_, ⟨hp.choices.1, fun l hl => (hp.choices.2 l hl).2.2.1⟩⟩, hm.1, fun k hk => ?_⟩
 ·obtain ⟨i, hi, rfl⟩ := List.getElem_of_mem hl
  have := hbs i (by omega)
  rw [nth_eq hi] at this; omega
 ·obtain ⟨i, hi, rfl⟩ := List.getElem_of_mem hl
  have := hbs i (by omega)
  rw [nth_eq hi] at this; omega
 ·exact (hbs k (by omega)).2.2
 ·exact (betC_in h1 _ (nth_mem hk)).1
end Go.Hb
end

section
namespace Go.Hb
open Go
structure Img where
 ver : Int
 ep : Int
 p : Prog
 c : Cor
def Img.lv (x : Img) : List LV := .int .i64 x.ver :: .int .i64 x.ep :: (x.p.lv ++ x.c.lv)
instance : Enc Img := ⟨19, Img.lv, ⟨0, 0, ⟨[], 0, [], [], [], [], 0⟩, ⟨0, [], [], [], [], [], [], [], [], []⟩⟩, fun _ => rfl, fun f n => by simp [Img.lv, Prog.lv, Cor.lv, undersB, LV.under]⟩
@[simp] theorem sz_img : Enc.sz Img = 19 := rfl
def addRow (L : List (List Int)) (at_ : Int) (l : List Int) : List (List Int) := L.set (around at_ L.length).toNat (nth L (around at_ L.length).toNat ++ l)
def thrAt (c : Cor) (at_ : Int) (f : Thr → Thr) : Cor := { c with threads := c.threads.set (around at_ c.threads.length).toNat (f (nth c.threads (around at_ c.threads.length).toNat)) }
def pcTo (n : Int) (t : Thr) : Thr := { t with frames := t.frames.set 0 { nth t.frames 0 with pc := n } }
def turnW (c : Cor) (w at_ n : Int) : Cor :=
 if w = 1 then { c with now := n }
 else if w = 2 then thrAt c at_ fun t => { t with state := n }
 else if w = 3 then thrAt c at_ fun t => { t with on := n }
 else if w = 4 then thrAt c at_ fun t => { t with stack := t.stack ++ [n] }
 else if w = 5 then thrAt c at_ (pcTo n)
 else if w = 6 then { c with owners := c.owners.set (around at_ c.owners.length).toNat n }
 else if w = 7 then { c with counts := c.counts.set (around at_ c.counts.length).toNat n }
 else if w = 8 then { c with lockq := addRow c.lockq at_ [n] }
 else if w = 9 then { c with waitq := addRow c.waitq at_ [n] }
 else if w = 10 then { c with downq := addRow c.downq at_ [n] }
 else if w = 11 then { c with sendq := addRow c.sendq at_ [n, n] }
 else if w = 12 then { c with recvq := addRow c.recvq at_ [n] }
 else if w = 13 then { c with bufs := addRow c.bufs at_ [n] }
 else if w = 15 then { c with owners := c.owners ++ [n] }
 else c
def turnC (x : Img) (what at_ n : Int) : Img :=
 ⟨if around what 16 = 14 then n else x.ver, if around what 16 = 0 then n else x.ep, x.p, turnW x.c (around what 16) at_ n⟩
def SizeL (L : List (List Int)) (k : Nat) : Prop := L.length ≤ 100 ∧ ∀ l ∈ L, l.length ≤ 100 + 2 * k
def SizeT (t : Thr) (k : Nat) : Prop := t.frames.length ≤ 8 ∧ t.stack.length ≤ 16 + k ∧ ∀ f ∈ t.frames, f.locals.length ≤ 8
structure SizeC (c : Cor) (k : Nat) : Prop where
 thr : 1 ≤ c.threads.length ∧ c.threads.length ≤ 100
 th : ∀ t ∈ c.threads, SizeT t k
 owners : c.owners.length ≤ 100 + k
 counts : c.counts.length ≤ 100 + k
 bufs : SizeL c.bufs k
 lockq : SizeL c.lockq k
 waitq : SizeL c.waitq k
 downq : SizeL c.downq k
 sendq : SizeL c.sendq k
 recvq : SizeL c.recvq k
theorem SizeL.up {L : List (List Int)} {k : Nat} (h : SizeL L k) : SizeL L (k + 1) := ⟨h.1, fun l hl => by have := h.2 l hl; omega⟩
theorem SizeT.up {t : Thr} {k : Nat} (h : SizeT t k) : SizeT t (k + 1) := ⟨h.1, by have := h.2.1; omega, h.2.2⟩
theorem SizeC.up {c : Cor} {k : Nat} (h : SizeC c k) : SizeC c (k + 1) :=
 ⟨h.thr, fun t ht => (h.th t ht).up, by have := h.owners; omega, by have := h.counts; omega, h.bufs.up, h.lockq.up, h.waitq.up, h.downq.up, h.sendq.up, h.recvq.up⟩
theorem addRow_size {L : List (List Int)} {k : Nat} (h : SizeL L k) (a : Int) {l : List Int} (hl : l.length ≤ 2) : SizeL (addRow L a l) (k + 1) := by
 unfold addRow
 refine ⟨by simpa using h.1, fun q hq => ?_⟩
 rcases List.mem_or_eq_of_mem_set hq with hq | rfl
 ·have := h.2 q hq; omega
 ·by_cases hk : (around a L.length).toNat < L.length
  ·have := h.2 _ (nth_mem hk)
   simp; omega
  ·rw [nth_out (by omega)]
   show ([] ++ l).length ≤ _
   simp; omega
theorem thrAt_size {c : Cor} {k : Nat} (h : SizeC c k) (a : Int) {f : Thr → Thr} (hf : ∀ t, SizeT t k → SizeT (f t) (k + 1)) : SizeC (thrAt c a f) (k + 1) := by
 refine ⟨by simpa [thrAt] using h.thr, fun t ht => ?_, h.up.owners, h.up.counts, h.up.bufs, h.up.lockq, h.up.waitq, h.up.downq, h.up.sendq, h.up.recvq⟩
 rcases List.mem_or_eq_of_mem_set ht with ht | rfl
 ·exact (h.th t ht).up
 ·refine hf _ ?_
  by_cases hk : (around a c.threads.length).toNat < c.threads.length
  ·exact h.th _ (nth_mem hk)
  ·rw [nth_out (by omega)]
   exact ⟨by show ([] : List Frm).length ≤ _; simp, by show ([] : List Int).length ≤ _; simp, fun g hg => by cases hg⟩
theorem pcTo_size {t : Thr} {k : Nat} {n : Int} (h : SizeT t k) : SizeT (pcTo n t) k := by
 refine ⟨by simpa [pcTo] using h.1, h.2.1, fun f hf => ?_⟩
 rcases List.mem_or_eq_of_mem_set hf with hf | rfl
 ·exact h.2.2 f hf
 ·show (nth t.frames 0).locals.length ≤ 8
  by_cases hk : 0 < t.frames.length
  ·exact h.2.2 _ (nth_mem hk)
  ·rw [nth_out (by omega)]
   show ([] : List Int).length ≤ 8
   simp
theorem turn_size {c : Cor} {k : Nat} (h : SizeC c k) (w a n : Int) : SizeC (turnW c w a n) (k + 1) := by
 have u := h.up
 unfold turnW
 by_cases e1 : w = 1
 ·rw [if_pos e1]; exact ⟨u.thr, u.th, u.owners, u.counts, u.bufs, u.lockq, u.waitq, u.downq, u.sendq, u.recvq⟩
 rw [if_neg e1]
 by_cases e2 : w = 2
 ·rw [if_pos e2]; exact thrAt_size h a fun t ht => ⟨ht.up.1, ht.up.2.1, ht.up.2.2⟩
 rw [if_neg e2]
 by_cases e3 : w = 3
 ·rw [if_pos e3]; exact thrAt_size h a fun t ht => ⟨ht.up.1, ht.up.2.1, ht.up.2.2⟩
 rw [if_neg e3]
 by_cases e4 : w = 4
 ·rw [if_pos e4]; exact thrAt_size h a fun t ht => ⟨ht.1, by have := ht.2.1; simp; omega, ht.2.2⟩
 rw [if_neg e4]
 by_cases e5 : w = 5
 ·rw [if_pos e5]; exact thrAt_size h a fun t ht => (pcTo_size ht).up
 rw [if_neg e5]
 by_cases e6 : w = 6
 ·rw [if_pos e6]; exact ⟨u.thr, u.th, by simpa using u.owners, u.counts, u.bufs, u.lockq, u.waitq, u.downq, u.sendq, u.recvq⟩
 rw [if_neg e6]
 by_cases e7 : w = 7
 ·rw [if_pos e7]; exact ⟨u.thr, u.th, u.owners, by simpa using u.counts, u.bufs, u.lockq, u.waitq, u.downq, u.sendq, u.recvq⟩
 rw [if_neg e7]
 by_cases e8 : w = 8
 ·rw [if_pos e8]; exact ⟨u.thr, u.th, u.owners, u.counts, u.bufs, addRow_size h.lockq a (by simp), u.waitq, u.downq, u.sendq, u.recvq⟩
 rw [if_neg e8]
 by_cases e9 : w = 9
 ·rw [if_pos e9]; exact ⟨u.thr, u.th, u.owners, u.counts, u.bufs, u.lockq, addRow_size h.waitq a (by simp), u.downq, u.sendq, u.recvq⟩
 rw [if_neg e9]
 by_cases e10 : w = 10
 ·rw [if_pos e10]; exact ⟨u.thr, u.th, u.owners, u.counts, u.bufs, u.lockq, u.waitq, addRow_size h.downq a (by simp), u.sendq, u.recvq⟩
 rw [if_neg e10]
 by_cases e11 : w = 11
 ·rw [if_pos e11]; exact ⟨u.thr, u.th, u.owners, u.counts, u.bufs, u.lockq, u.waitq, u.downq, addRow_size h.sendq a (by simp), u.recvq⟩
 rw [if_neg e11]
 by_cases e12 : w = 12
 ·rw [if_pos e12]; exact ⟨u.thr, u.th, u.owners, u.counts, u.bufs, u.lockq, u.waitq, u.downq, u.sendq, addRow_size h.recvq a (by simp)⟩
 rw [if_neg e12]
 by_cases e13 : w = 13
 ·rw [if_pos e13]; exact ⟨u.thr, u.th, u.owners, u.counts, addRow_size h.bufs a (by simp), u.lockq, u.waitq, u.downq, u.sendq, u.recvq⟩
 rw [if_neg e13]
 by_cases e15 : w = 15
 ·rw [if_pos e15]; exact ⟨u.thr, u.th, by have := h.owners; simp; omega, u.counts, u.bufs, u.lockq, u.waitq, u.downq, u.sendq, u.recvq⟩
 rw [if_neg e15]
 exact u
theorem SizeC.corB {c : Cor} {k : Nat} (h : SizeC c k) (hk : k ≤ 2) : CorB c := by
 have q : ∀ {L : List (List Int)}, SizeL L k → RowsB L := fun {L} h => ⟨by have := h.1; omega, fun l hl => by have := h.2 l hl; omega⟩
 exact ⟨by have := h.thr; omega, by have := h.owners; omega, by have := h.counts; omega, q h.bufs, q h.lockq, q h.waitq, q h.downq, q h.sendq, q h.recvq⟩
theorem SizeC.thrB {c : Cor} {k : Nat} (h : SizeC c k) (hk : k ≤ 2) : ∀ t ∈ c.threads, ThrB t := fun t ht => ⟨(h.th t ht).1, by have := (h.th t ht).2.1; omega, (h.th t ht).2.2⟩
theorem Inv.sizeL {p : Prog} {ex : Int} {D : Nat → Int → Prop} {c : Cor} (h : Inv p ex D c) (hp : MayP p) {L : List (List Int)} {r : Int} (hL : ∀ k, nth L k = rowOf c r k) (hn : L.length = nRows p r) (h8 : L.length ≤ 8) : SizeL L 0 :=
 ⟨by omega, fun l hl => by
  obtain ⟨k, hk, rfl⟩ := List.getElem_of_mem hl
  rw [← nth_eq hk, hL]
  have := h.cnt_le (r := r) (k := k) (by omega)
  have := h.nthr.2
  have := hp.threads.2
  omega⟩
theorem Inv.size {p : Prog} {ex : Int} {D : Nat → Int → Prop} {c : Cor} (h : Inv p ex D c) (hp : MayP p) : SizeC c 0 := by
 have ht := h.nthr
 have ht2 := hp.threads.2
 have hl := h.len
 have hm := hp.mutexes
 have e1 := hl.owners; have e2 := hl.counts; have e3 := hl.bufs; have e4 := hl.lockq; have e5 := hl.waitq; have e6 := hl.downq; have e7 := hl.sendq; have e8 := hl.recvq
 have h1 := hp.conds.1; have h2 := hp.semas.1; have h3 := hp.chans.1
 refine ⟨by omega, fun t hx => ?_, by omega, by omega, ⟨by omega, fun l hl' => ?_⟩, h.sizeL hp (r := 3) (fun k => by simp [rowOf]) (by simp [nRows]; omega) (by omega), h.sizeL hp (r := 4) (fun k => by simp [rowOf]) (by simp [nRows]; omega) (by omega),
  h.sizeL hp (r := 5) (fun k => by simp [rowOf]) (by simp [nRows]; omega) (by omega), ⟨by omega, fun l hl' => ?_⟩, h.sizeL hp (r := 7) (fun k => by simp [rowOf]) (by simp [nRows]; omega) (by omega)⟩
 ·obtain ⟨i, hi, rfl⟩ := List.getElem_of_mem hx
  have h5 := h.thr i hi
  rw [nth_eq hi] at h5
  exact ⟨h5.fr, by have := h5.sk; omega, (thrI_b hp h5).2.2⟩
 ·obtain ⟨k, hk, rfl⟩ := List.getElem_of_mem hl'
  rw [← nth_eq hk]
  have h4 := (h.things.chan k (by omega)).room
  have := hp.chans.2 (nth p.chans k) (nth_mem (by omega))
  omega
 ·obtain ⟨k, hk, rfl⟩ := List.getElem_of_mem hl'
  rw [← nth_eq hk]
  have h4 := evens_len (h.things.chan k (by omega)).even
  have h5 := h.cnt_le (r := 6) (k := k) (by simp [nRows]; omega)
  simp [rowOf] at h5
  omega
end Go.Hb
end

section
namespace Go.Hb
open Go
theorem img_deep {S : List AObj} {n : Nat} {ver ep : Int} {p : Prog} {c : Cor} {xT xO xC xB xL xW xD xS xR : LV} (hT : DeepV S n xT (row c.threads)) (hO : DeepV S n xO (row c.owners)) (hC : DeepV S n xC (row c.counts))
  (hB : DeepV S n xB (row c.bufs)) (hL : DeepV S n xL (row c.lockq)) (hW : DeepV S n xW (row c.waitq)) (hD : DeepV S n xD (row c.downq)) (hS : DeepV S n xS (row c.sendq)) (hR : DeepV S n xR (row c.recvq)) :
  DeepV S n (.agg [.int .i64 ver, .int .i64 ep, row p.funcs, .int .i64 p.mutexes, row p.conds, row p.semas, row p.chans, row p.choices, .int .i64 p.threads, .int .i64 c.now, xT, xO, xC, xB, xL, xW, xD, xS, xR]) (.agg (Img.lv ⟨ver, ep, p, c⟩)) :=
 .agg _ _ (.cons _ _ _ _ (.keep _ rfl) (.cons _ _ _ _ (.keep _ rfl) (.cons _ _ _ _ (.keep _ (by simp)) (.cons _ _ _ _ (.keep _ rfl) (.cons _ _ _ _ (.keep _ (by simp)) (.cons _ _ _ _ (.keep _ (by simp)) (.cons _ _ _ _ (.keep _ (by simp)) (.cons _ _ _ _ (.keep _ (by simp)) (.cons _ _ _ _ (.keep _ rfl) (.cons _ _ _ _ (.keep _ rfl)
  (.cons _ _ _ _ hT (.cons _ _ _ _ hO (.cons _ _ _ _ hC (.cons _ _ _ _ hB (.cons _ _ _ _ hL (.cons _ _ _ _ hW (.cons _ _ _ _ hD (.cons _ _ _ _ hS (.cons _ _ _ _ hR .nil)))))))))))))))))))
theorem rowD {α : Type} [Enc α] {S : List AObj} {n : Nat} (l : List α) : DeepV S n (row l) (row l) := .keep _ (by simp)
theorem CloR.two {c : Cor} {s : List AObj} {a b : AObj} {v v' : List Nat} {x : LV} {s' : List AObj} (h : CloR c (s ++ [a, b]) v x s' v') :
  ∃ J d xO xC dO dC, s' = s ++ (a :: b :: J) ∧ J[d]? = some (.cells (rowCs c.threads)) ∧ RowR (s ++ (a :: b :: J)) 1 c.owners.length (rowCs c.owners) xO (s.length + (dO + 2)) ∧ RowR (s ++ (a :: b :: J)) 1 c.counts.length (rowCs c.counts) xC (s.length + (dC + 2)) ∧ dO ≠ d ∧ (dC ≠ d ∧ (c.owners.length ≠ 0 → dO ≠ dC)) ∧ v <+: v' ∧
   x = .agg [.int .i64 c.now, .ref 5 (s.length + (d + 2)) 0 c.threads.length false, xO, xC, row c.bufs, row c.lockq, row c.waitq, row c.downq, row c.sendq, row c.recvq] := by
 obtain ⟨J, d, xO, xC, dO, dC, h1, h2, h3, h4, h5, h6, h7, h8⟩ := h
 have e1 : ∀ n, (s ++ [a, b]).length + n = s.length + (n + 2) := fun n => by simp; omega
 rw [e1] at h3 h4 h8
 simp only [List.append_assoc, List.cons_append, List.nil_append] at h1 h3 h4
 exact ⟨J, d, xO, xC, dO, dC, h1.symm, h2, h3, h4, h5, h6, h7, h8⟩
theorem RowR.oth2 {s J J' : List AObj} {a b a' b' : AObj} {n d e : Nat} {cs : List LV} {x : LV} (h : RowR (s ++ (a :: b :: J)) 1 n cs x (s.length + (e + 2))) (hJ : ∀ i, i ≠ d → i < J.length → J'[i]? = J[i]?) (he : n ≠ 0 → e ≠ d) : RowR (s ++ (a' :: b' :: J')) 1 n cs x (s.length + (e + 2)) :=
 h.keep fun h0 => by
  have hl := h.lt h0
  simp at hl
  rw [layB_get, layB_get]
  exact hJ e (he h0) (by omega)
theorem RowR.two {s J : List AObj} {a b : AObj} {n d : Nat} {cs : List LV} {x : LV} (h : RowR (s ++ [a, b] ++ J) 1 n cs x ((s ++ [a, b]).length + d)) (A B : AObj) : RowR (s ++ (A :: B :: J)) 1 n cs x (s.length + (d + 2)) := by
 have e : (s ++ [a, b]).length + d = s.length + (d + 2) := by simp; omega
 rw [e] at h
 refine h.keep fun _ => ?_
 rw [layB_get, show s ++ [a, b] ++ J = s ++ (a :: b :: J) by simp, layB_get]
def selL (c : Cor) (j : Nat) : List (List Int) := if j = 0 then c.bufs else if j = 1 then c.lockq else if j = 2 then c.waitq else if j = 3 then c.downq else if j = 4 then c.sendq else c.recvq
def selX (c : Cor) (j : Nat) (y : LV) : LV := .agg [.int .i64 c.now, row c.threads, row c.owners, row c.counts, if j = 0 then y else row c.bufs, if j = 1 then y else row c.lockq, if j = 2 then y else row c.waitq, if j = 3 then y else row c.downq, if j = 4 then y else row c.sendq, if j = 5 then y else row c.recvq]
def CloL (c : Cor) (j : Nat) (s : List AObj) (v : List Nat) (x : LV) (s' : List AObj) (v' : List Nat) : Prop :=
 ∃ K d cs y, s ++ K = s' ∧ RowR (s ++ K) 1 (selL c j).length cs y (s.length + d) ∧ ((selL c j).length ≠ 0 → d < K.length) ∧ ListsG v v' (selL c j) cs ∧ x = selX c j y
theorem CloL.two {c : Cor} {j : Nat} {s : List AObj} {a b : AObj} {v v' : List Nat} {x : LV} {s' : List AObj} (h : CloL c j (s ++ [a, b]) v x s' v') :
  ∃ K d cs y, s' = s ++ (a :: b :: K) ∧ RowR (s ++ (a :: b :: K)) 1 (selL c j).length cs y (s.length + (d + 2)) ∧ ((selL c j).length ≠ 0 → d < K.length) ∧ ListsG v v' (selL c j) cs ∧ x = selX c j y := by
 obtain ⟨K, d, cs, y, h1, h2, h3, h4, h5⟩ := h
 exact ⟨K, d, cs, y, by rw [← h1]; simp, h2.two a b, h3, h4, h5⟩
def putL (c : Cor) (j : Nat) (L : List (List Int)) : Cor := if j = 0 then { c with bufs := L } else if j = 1 then { c with lockq := L } else if j = 2 then { c with waitq := L } else if j = 3 then { c with downq := L } else if j = 4 then { c with sendq := L } else { c with recvq := L }
theorem SizeC.sel {c : Cor} {k : Nat} (h : SizeC c k) (j : Nat) : SizeL (selL c j) k := by
 unfold selL
 by_cases e0 : j = 0
 ·rw [if_pos e0]; exact h.bufs
 rw [if_neg e0]
 by_cases e1 : j = 1
 ·rw [if_pos e1]; exact h.lockq
 rw [if_neg e1]
 by_cases e2 : j = 2
 ·rw [if_pos e2]; exact h.waitq
 rw [if_neg e2]
 by_cases e3 : j = 3
 ·rw [if_pos e3]; exact h.downq
 rw [if_neg e3]
 by_cases e4 : j = 4
 ·rw [if_pos e4]; exact h.sendq
 rw [if_neg e4]; exact h.recvq
end Go.Hb
end

section
namespace Go.Hb
open Go
def csT (l : List Thr) (t : Nat) (xF xS : LV) : List LV := ((rowCs l).set (t * 5 + 2) xF).set (t * 5 + 3) xS
theorem thr5 (l : List Thr) : (rowCs l).length = l.length * 5 := by rw [rowCs_len]; rfl
theorem csT_len (l : List Thr) (t : Nat) (xF xS : LV) : (csT l t xF xS).length = l.length * 5 := by unfold csT; simp [thr5]
theorem csT_lo {l : List Thr} {t : Nat} (h : l.length ≤ t) (xF xS : LV) : csT l t xF xS = rowCs l := by
 unfold csT
 have := thr5 l
 rw [List.set_eq_of_length_le (i := t * 5 + 2) (by omega), List.set_eq_of_length_le (by omega)]
theorem rowCs_snoc (l : List Thr) (th : Thr) : rowCs (l ++ [th]) = rowCs l ++ th.lv := by simp [rowCs, Enc.enc]
theorem csT_at {l : List Thr} {t : Nat} (h : l.length = t) (th : Thr) (xF xS : LV) : csT (l ++ [th]) t xF xS = rowCs l ++ [.int .i64 th.state, .int .i64 th.on, xF, xS, .int .i64 th.code] := by
 unfold csT
 have := thr5 l
 rw [rowCs_snoc, List.set_append_right _ _ (by omega), List.set_append_right _ _ (by omega), show t * 5 + 2 - (rowCs l).length = 2 by omega, show t * 5 + 3 - (rowCs l).length = 3 by omega]
 rfl
theorem csT_hi {l : List Thr} {t : Nat} (h : t < l.length) (th : Thr) (xF xS : LV) : csT (l ++ [th]) t xF xS = csT l t xF xS ++ th.lv := by
 unfold csT
 have := thr5 l
 rw [rowCs_snoc, List.set_append_left _ _ (by omega), List.set_append_left _ _ (by rw [List.length_set]; omega)]
theorem rowCs_fs (fr : List Frm) (sk : List Int) : ∀ (l : List Thr) {k : Nat}, k < l.length → ((rowCs l).set (k * 5 + 2) (row fr)).set (k * 5 + 3) (row sk) = rowCs (l.set k { nth l k with frames := fr, stack := sk })
 | x :: l, 0, _ => rfl
 | x :: l, k + 1, h => by
  have ih := rowCs_fs fr sk l (k := k) (by simpa using h)
  rw [show (k + 1) * 5 + 2 = k * 5 + 2 + 1 + 1 + 1 + 1 + 1 by omega, show (k + 1) * 5 + 3 = k * 5 + 3 + 1 + 1 + 1 + 1 + 1 by omega, rowCs_thr]
  simp only [List.set_cons_succ]
  rw [ih]; rfl
theorem DeepVs.set {S : List AObj} {n : Nat} {x y : LV} : ∀ {xs ys : List LV} (i : Nat), DeepVs S n xs ys → DeepV S n x y → DeepVs S n (xs.set i x) (ys.set i y)
 | _, _, _, .nil, _ => by simpa using DeepVs.nil
 | _, _, 0, .cons _ _ _ _ _ hs, h => .cons _ _ _ _ h hs
 | _, _, i + 1, .cons _ _ _ _ h0 hs, h => .cons _ _ _ _ h0 (DeepVs.set i hs h)
theorem csT_deep {S : List AObj} {n : Nat} {l : List Thr} {t : Nat} (h : t < l.length) {xF xS : LV} {fr : List Frm} {sk : List Int} (hF : DeepV S n xF (row fr)) (hS : DeepV S n xS (row sk)) :
  DeepVs S n (csT l t xF xS) (rowCs (l.set t { nth l t with frames := fr, stack := sk })) := by
 rw [← rowCs_fs fr sk l h]
 exact DeepVs.set _ (DeepVs.set _ (keepAll _ (rowCs_und n l)) hF) hS
structure ThrA (S : List AObj) (b e : Nat) (t : Thr) (xF xS : LV) (ids : List Nat) (r : List LV) (iF iS : Nat) : Prop where
 frames : RowR S 3 t.frames.length r xF iF
 fr : FrmsV S t.frames ids r
 stack : RowR S 1 t.stack.length (rowCs t.stack) xS iS
 ids : ∀ id ∈ ids, b ≤ id ∧ id < e ∧ (t.frames.length ≠ 0 → id ≠ iF) ∧ (t.stack.length ≠ 0 → id ≠ iS)
 atF : b ≤ iF ∧ (t.frames.length ≠ 0 → iF < e)
 atS : b ≤ iS ∧ (t.stack.length ≠ 0 → iS < e)
 ne : t.frames.length ≠ 0 → t.stack.length ≠ 0 → iF ≠ iS
theorem ThrA.keep {S S' : List AObj} {b b' e e' : Nat} {t : Thr} {xF xS : LV} {ids : List Nat} {r : List LV} {iF iS : Nat} (h : ThrA S b e t xF xS ids r iF iS) (hk : ∀ i, b ≤ i → i < e → S'[i]? = S[i]?) (hb : b' ≤ b) (he : e ≤ e') : ThrA S' b' e' t xF xS ids r iF iS :=
 ⟨h.frames.keep fun h0 => hk _ h.atF.1 (h.atF.2 h0), h.fr.keep fun i hi => hk _ (h.ids i hi).1 (h.ids i hi).2.1, h.stack.keep fun h0 => hk _ h.atS.1 (h.atS.2 h0),
  fun i hi => ⟨Nat.le_trans hb (h.ids i hi).1, Nat.lt_of_lt_of_le (h.ids i hi).2.1 he, (h.ids i hi).2.2⟩, ⟨Nat.le_trans hb h.atF.1, fun h0 => Nat.lt_of_lt_of_le (h.atF.2 h0) he⟩, ⟨Nat.le_trans hb h.atS.1, fun h0 => Nat.lt_of_lt_of_le (h.atS.2 h0) he⟩, h.ne⟩
theorem thr_step2 {P : Program} {t t2 : TypeId} {by_ : Nat} (hok : appOk P t t2 5 by_ = true) (hby : by_ ≤ 1000) {s J : List AObj} {a b : AObj} {k d : Nat} {xs ds : List LV} {x : LV} (hr : RowR (s ++ (a :: b :: J)) 5 k xs x (s.length + (d + 2))) (hd : k ≠ 0 → d < J.length) (hds : ds.length = 5) (hk : k + 1 ≤ 100000000) :
  ∃ J2, (∀ y, aCells 5 y (s ++ (a :: b :: (J ++ [.cells ds]))) = some (ds, 1) → aAppendOwn P t t2 x y (s ++ (a :: b :: (J ++ [.cells ds]))) = some (.ref 5 (s.length + (J.length + 1 + 2)) 0 (k + 1) false, s ++ (a :: b :: J2))) ∧ RowR (s ++ (a :: b :: J2)) 5 (k + 1) (xs ++ ds) (.ref 5 (s.length + (J.length + 1 + 2)) 0 (k + 1) false) (s.length + (J.length + 1 + 2)) ∧ J2.length = J.length + 2 ∧
   ∀ i, (k ≠ 0 → i ≠ d) → i < J.length → J2[i]? = J[i]? := by
 have hr2 : RowR (s ++ (a :: b :: (J ++ [.cells ds]))) 5 k xs x (s.length + (d + 2)) := hr.keep fun h0 => by
  rw [layB_get, layB_get, List.getElem?_append_left (hd h0)]
 have hxl : xs.length = k * 5 := by
  rcases hr with ⟨h1, h2, _⟩ | ⟨_, _, _, _, h⟩
  ·rw [h1, h2]; rfl
  ·exact h
 have hl : (if k = 0 then J ++ [AObj.cells ds] else (J ++ [AObj.cells ds]).set d (.cells [])).length = J.length + 1 := by split <;> simp
 refine ⟨(if k = 0 then J ++ [AObj.cells ds] else (J ++ [AObj.cells ds]).set d (.cells [])) ++ [AObj.cells (xs ++ ds)], fun y hy => ?_, .inr ⟨by omega, (by intro h; simp at h; rw [h.2] at hds; cases hds), rfl, ?_, ?_⟩, ?_, fun i hi hlt => ?_⟩
 ·rw [own_grow (by_ := by_) hok (by omega) hby hr2 hy hds hk]
  have e1 : (s ++ (a :: b :: (J ++ [AObj.cells ds]))).length = s.length + (J.length + 1 + 2) := by simp
  rw [e1]
  congr 2
  by_cases h0 : k = 0
  ·rw [if_pos h0, if_pos h0]; simp
  ·rw [if_neg h0, if_neg h0, set_app, List.set_cons_succ, List.set_cons_succ]; simp
 ·rw [layB_get, List.getElem?_append_right (by omega), hl]; simp
 ·rw [List.length_append, hxl, hds]; omega
 ·rw [List.length_append, hl]; rfl
 ·rw [List.getElem?_append_left (by omega)]
  split
  ·rw [List.getElem?_append_left hlt]
  ·rename_i h0
   rw [List.getElem?_set_ne (Ne.symm (hi h0)), List.getElem?_append_left hlt]
def CloT (c : Cor) (t : Nat) (s : List AObj) (v : List Nat) (x : LV) (s' : List AObj) (v' : List Nat) : Prop :=
 ∃ J d xO xC dO dC xF xS ids r iF iS, s ++ J = s' ∧ J[d]? = some (.cells (csT c.threads t xF xS)) ∧ ThrA (s ++ J) s.length (s.length + d) (nth c.threads t) xF xS ids r iF iS ∧
  RowR (s ++ J) 1 c.owners.length (rowCs c.owners) xO (s.length + dO) ∧ RowR (s ++ J) 1 c.counts.length (rowCs c.counts) xC (s.length + dC) ∧ d < dO ∧ d < dC ∧ v <+: v' ∧
  x = .agg [.int .i64 c.now, .ref 5 (s.length + d) 0 c.threads.length false, xO, xC, row c.bufs, row c.lockq, row c.waitq, row c.downq, row c.sendq, row c.recvq]
theorem CloT.two {c : Cor} {t : Nat} {s : List AObj} {a b : AObj} {v v' : List Nat} {x : LV} {s' : List AObj} (h : CloT c t (s ++ [a, b]) v x s' v') :
  ∃ J d xO xC dO dC xF xS ids r iF iS, s' = s ++ (a :: b :: J) ∧ J[d]? = some (.cells (csT c.threads t xF xS)) ∧ ThrA (s ++ (a :: b :: J)) (s.length + 2) (s.length + (d + 2)) (nth c.threads t) xF xS ids r iF iS ∧
   RowR (s ++ (a :: b :: J)) 1 c.owners.length (rowCs c.owners) xO (s.length + (dO + 2)) ∧ RowR (s ++ (a :: b :: J)) 1 c.counts.length (rowCs c.counts) xC (s.length + (dC + 2)) ∧ d < dO ∧ d < dC ∧ v <+: v' ∧
   x = .agg [.int .i64 c.now, .ref 5 (s.length + (d + 2)) 0 c.threads.length false, xO, xC, row c.bufs, row c.lockq, row c.waitq, row c.downq, row c.sendq, row c.recvq] := by
 obtain ⟨J, d, xO, xC, dO, dC, xF, xS, ids, r, iF, iS, h1, h2, h3, h4, h5, h6, h7, h8, h9⟩ := h
 have e1 : ∀ n, (s ++ [a, b]).length + n = s.length + (n + 2) := fun n => by simp; omega
 have e2 : (s ++ [a, b]).length = s.length + 2 := by simp
 rw [e1, e2] at h3
 rw [e1] at h4 h5 h9
 simp only [List.append_assoc, List.cons_append, List.nil_append] at h1 h3 h4 h5
 exact ⟨J, d, xO, xC, dO, dC, xF, xS, ids, r, iF, iS, h1.symm, h2, h3, h4, h5, h6, h7, h8, h9⟩
theorem thr_row {S : List AObj} {n id : Nat} {l l' : List Thr} {cs : List LV} (hn : n ≤ id) (hS : S[id]? = some (.cells cs)) (hl : cs.length = l.length * 5) (h0 : l ≠ []) (he : l'.length = l.length) (hd : DeepVs S n cs (rowCs l')) : DeepV S n (.ref 5 id 0 l.length false) (row l') := by
 have hne : l.length ≠ 0 := fun e => h0 (List.length_eq_zero_iff.1 e)
 refine RowR.deep (α := Thr) (id := id) (cs := cs) ?_ hn hd
 rw [he]
 exact .inr ⟨hne, by intro e; rw [e] at hl; simp at hl; omega, rfl, hS, hl⟩
end Go.Hb
end

