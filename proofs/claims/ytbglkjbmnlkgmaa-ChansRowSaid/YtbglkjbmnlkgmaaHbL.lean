import Derived.Test.YtbglkjbmnlkgmaaHbK
namespace Go.Hb
open Go Go.RowKit

/-! ### scalars -/
def strB (s : ByteArray) : List UInt8 := s.toList

def aBin (P : Program) (op : BinOp) (t : TypeId) (x y : LV) : Option LV := match x, y with
  | .int k a, .int k' b => match op with
    | .shl => if 0 ≤ b then some (.int k (k.wrap (a * 2 ^ (min b.toNat k.bits)))) else none
    | .shr => if 0 ≤ b then some (.int k (a.fdiv (2 ^ (min b.toNat k.bits)))) else none
    | _ => if k = k' then (match op with
      | .add => some (.int k (k.wrap (a + b)))
      | .sub => some (.int k (k.wrap (a - b)))
      | .mul => some (.int k (k.wrap (a * b)))
      | .quo => if b = 0 then none else some (.int k (k.wrap (a.tdiv b)))
      | .rem => if b = 0 then none else some (.int k (a.tmod b))
      | .and => some (.int k (k.wrap ((BitVec.ofInt k.bits a &&& BitVec.ofInt k.bits b).toNat : Int)))
      | .or => some (.int k (k.wrap ((BitVec.ofInt k.bits a ||| BitVec.ofInt k.bits b).toNat : Int)))
      | .xor => some (.int k (k.wrap ((BitVec.ofInt k.bits a ^^^ BitVec.ofInt k.bits b).toNat : Int)))
      | .eql => some (.bool (decide (a = b)))
      | .neq => some (.bool (!decide (a = b)))
      | .lss => some (.bool (decide (a < b)))
      | .leq => some (.bool (decide (a ≤ b)))
      | .gtr => some (.bool (decide (b < a)))
      | .geq => some (.bool (decide (b ≤ a)))
      | _ => none) else none
  | .bool a, .bool b => match P.underlying t with
    | some .bool => (match op with
      | .eql => some (.bool (a == b))
      | .neq => some (.bool (!(a == b)))
      | _ => none)
    | _ => none
  | .str a, .str b => match op with
    | .add => if ((a.size + b.size : Nat) : Int) ≤ IntKind.i64.max then some (.str (a ++ b)) else none
    | .eql => some (.bool (a.toList == b.toList))
    | .neq => some (.bool (!(a.toList == b.toList)))
    | _ => none
  | x, .nilf => match P.underlying t, x with
    | some (.func _ _ _), .nilf => (match op with | .eql => some (.bool true) | .neq => some (.bool false) | _ => none)
    | some (.func _ _ _), .fn _ _ _ => (match op with | .eql => some (.bool false) | .neq => some (.bool true) | _ => none)
    | _, _ => none
  | x, .nilp => match P.underlying t, x with
    | some (.pointer _), .nilp => (match op with | .eql => some (.bool true) | .neq => some (.bool false) | _ => none)
    | some (.pointer _), .ptr _ _ => (match op with | .eql => some (.bool false) | .neq => some (.bool true) | _ => none)
    | _, _ => none
  | x, .nils => match P.underlying t, x with
    | some (.slice _), .nils => (match op with | .eql => some (.bool true) | .neq => some (.bool false) | _ => none)
    | some (.slice _), .emp _ => (match op with | .eql => some (.bool false) | .neq => some (.bool true) | _ => none)
    | some (.slice _), .imm _ len _ _ => if len = 0 then none else (match op with | .eql => some (.bool false) | .neq => some (.bool true) | _ => none)
    | some (.slice _), .ref _ _ _ _ _ => (match op with | .eql => some (.bool false) | .neq => some (.bool true) | _ => none)
    | _, _ => none
  | _, _ => none

def plainB : Value → Bool | .nilIface | .agg _ => false | _ => true

theorem eqGuard_quiet {P : Program} {w : World} {op : BinOp} {t : TypeId} {x y : Operand} {a b : Value} (ha : plainB a = true) : (eqGuard op t x y a b).run P w = .ok () w := by
  unfold eqGuard
  cases op <;> simp <;> cases a <;> simp [plainB] at ha ⊢

theorem equal_eq (t : TypeId) (x y : Value) : Op.equal t x y = Op.equalIn (9999 + 1) t x y := rfl

theorem run_equal_bool {P : Program} {w : World} {t : TypeId} (hu : P.underlying t = some .bool) (a b : Bool) : (Op.equal t (.bool a) (.bool b)).run P w = .ok (a == b) w := by
  rw [equal_eq, Op.equalIn]
  simp only [Sem.run_bind, run_underlying hu, Result.andThen_ok, Sem.run_pure]

theorem relInt {C : Ctx} (k : IntKind) (n : Int) : RelV C (.int k n) (.int k n) := by simp [RelV]
theorem relBool {C : Ctx} (b : Bool) : RelV C (.bool b) (.bool b) := by simp [RelV]
theorem relStr {C : Ctx} (b : ByteArray) : RelV C (.str b) (.string b) := by simp [RelV]

theorem run_equal_func0 {P : Program} {w : World} {t : TypeId} {a b c} (hu : P.underlying t = some (.func a b c)) : (Op.equal t .nilFunc .nilFunc).run P w = .ok true w := by
  rw [equal_eq, Op.equalIn]; simp only [Sem.run_bind, run_underlying hu, Result.andThen_ok, Sem.run_pure]
theorem run_equal_func1 {P : Program} {w : World} {t : TypeId} {a b c} (hu : P.underlying t = some (.func a b c)) (f : Fn) (x y : Array Value) : (Op.equal t (.func f x y) .nilFunc).run P w = .ok false w := by
  rw [equal_eq, Op.equalIn]; simp only [Sem.run_bind, run_underlying hu, Result.andThen_ok, Sem.run_pure]
theorem run_equal_ptr0 {P : Program} {w : World} {t e : TypeId} (hu : P.underlying t = some (.pointer e)) : (Op.equal t (.pointer none) (.pointer none)).run P w = .ok true w := by
  rw [equal_eq, Op.equalIn]; simp only [Sem.run_bind, run_underlying hu, Result.andThen_ok, Sem.run_pure, Option.isNone_none]
theorem run_equal_ptr1 {P : Program} {w : World} {t e : TypeId} (hu : P.underlying t = some (.pointer e)) (a : Addr) : (Op.equal t (.pointer (some a)) (.pointer none)).run P w = .ok false w := by
  rw [equal_eq, Op.equalIn]; simp only [Sem.run_bind, run_underlying hu, Result.andThen_ok, Sem.run_pure]
theorem run_equal_sl0 {P : Program} {w : World} {t e : TypeId} (hu : P.underlying t = some (.slice e)) : (Op.equal t (.slice none 0 0) (.slice none 0 0)).run P w = .ok true w := by
  rw [equal_eq, Op.equalIn]; simp only [Sem.run_bind, run_underlying hu, Result.andThen_ok, Sem.run_pure, Option.isNone_none]
theorem run_equal_sl1 {P : Program} {w : World} {t e : TypeId} (hu : P.underlying t = some (.slice e)) (a : Addr) (n c : Nat) : (Op.equal t (.slice (some a) n c) (.slice none 0 0)).run P w = .ok false w := by
  rw [equal_eq, Op.equalIn]; simp only [Sem.run_bind, run_underlying hu, Result.andThen_ok, Sem.run_pure]

theorem aBin_sound {P : Program} {C : Ctx} {s : List AObj} {op : BinOp} {t : TypeId} {ox oy : Operand} {x y z : LV} {v u : Value} (hok : Ok C s) (hx : RelV C x v) (hy : RelV C y u) (h : aBin P op t x y = some z) :
    Runs P C (do eqGuard op t ox oy v u; binOp op t v u) z s C.τ := by
  have key : ∀ r, RelV C z r → plainB v = true → (binOp op t v u).run P C.w = .ok r C.w → Runs P C (do eqGuard op t ox oy v u; binOp op t v u) z s C.τ := by
    intro r h1 h2 h3
    refine Runs.quiet hok h1 ?_
    rw [Sem.run_bind, eqGuard_quiet h2]
    exact h3
  unfold aBin at h
  split at h
  · -- ints
    rename_i k a k' b
    simp only [RelV] at hx hy
    subst hx; subst hy
    split at h
    · split at h
      · rename_i hb
        simp at h; subst h
        refine key _ (relInt _ _) rfl ?_
        have : ¬ b < 0 := by omega
        simp [binOp, Op.shift, this]
      · cases h
    · split at h
      · rename_i hb
        simp at h; subst h
        refine key _ (relInt _ _) rfl ?_
        have : ¬ b < 0 := by omega
        simp [binOp, Op.shift, this]
      · cases h
    · rename_i h1 h2
      split at h
      · rename_i e
        subst e
        cases op <;> simp only at h <;> try (cases h; done)
        case quo =>
          split at h
          · cases h
          · rename_i hb; simp at h; subst h
            refine key _ (relInt _ _) rfl ?_
            simp [binOp, Op.intDiv, hb]
        case rem =>
          split at h
          · cases h
          · rename_i hb; simp at h; subst h
            refine key _ (relInt _ _) rfl ?_
            simp [binOp, Op.intDiv, hb]
        all_goals (simp only [Option.some.injEq] at h; subst h; first | refine key _ (relInt _ _) rfl ?_ | refine key _ (relBool _) rfl ?_)
        all_goals first
          | (simp [binOp, Op.intArith]; done)
          | (simp [binOp, Op.intBits]; done)
          | (simp only [binOp, Op.intCmp, if_false, ne_eq, not_true_eq_false, Sem.run_pure]; done)
          | (simp only [binOp, Op.intCmp, if_false, ne_eq, not_true_eq_false, Sem.run_pure]; congr 2; done)
          | (simp only [binOp, Op.intCmp, if_false, ne_eq, not_true_eq_false, Sem.run_pure]; congr 2; rw [Bool.eq_iff_iff]; simp; done)
      · cases h
  · -- bools
    rename_i a b
    simp only [RelV] at hx hy
    subst hx; subst hy
    split at h
    · rename_i hu
      split at h
      · simp only [Option.some.injEq] at h; subst h
        refine key _ (relBool _) rfl ?_
        simp [binOp, run_equal_bool hu]
      · simp only [Option.some.injEq] at h; subst h
        refine key _ (relBool _) rfl ?_
        simp [binOp, run_equal_bool hu]
      · cases h
    · cases h
  · -- strings
    rename_i a b
    simp only [RelV] at hx hy
    subst hx; subst hy
    split at h
    · split at h
      · rename_i hs
        simp only [Option.some.injEq] at h; subst h
        refine key _ (relStr _) rfl ?_
        have : ¬ (((a.size + b.size : Nat) : Int) > IntKind.i64.max) := by omega
        simp only [binOp, Op.stringOp]
        rw [if_neg this]; rfl
      · cases h
    · simp only [Option.some.injEq] at h; subst h
      refine key _ (relBool _) rfl ?_
      simp [binOp, Op.stringOp]
    · simp only [Option.some.injEq] at h; subst h
      refine key _ (relBool _) rfl ?_
      simp [binOp, Op.stringOp]
    · cases h
  · -- functions
    simp only [RelV] at hy; subst hy
    split at h
    · rename_i hu
      simp only [RelV] at hx; subst hx
      split at h <;> first | (cases h; done) | (simp only [Option.some.injEq] at h; subst h; refine key _ (relBool _) rfl ?_; simp only [binOp, Sem.run_bind, run_equal_func0 hu, Result.andThen_ok, Sem.run_pure]; (try rfl))
    · rename_i hu
      simp only [RelV] at hx; obtain ⟨fs, cs, rfl, _⟩ := hx
      split at h <;> first | (cases h; done) | (simp only [Option.some.injEq] at h; subst h; refine key _ (relBool _) rfl ?_; simp only [binOp, Sem.run_bind, run_equal_func1 hu, Result.andThen_ok, Sem.run_pure]; (try rfl))
    · cases h
  · -- pointers
    simp only [RelV] at hy; subst hy
    split at h
    · rename_i hu
      simp only [RelV] at hx; subst hx
      split at h <;> first | (cases h; done) | (simp only [Option.some.injEq] at h; subst h; refine key _ (relBool _) rfl ?_; simp only [binOp, Sem.run_bind, run_equal_ptr0 hu, Result.andThen_ok, Sem.run_pure]; (try rfl))
    · rename_i hu
      simp only [RelV] at hx; obtain ⟨_, rfl⟩ := hx
      split at h <;> first | (cases h; done) | (simp only [Option.some.injEq] at h; subst h; refine key _ (relBool _) rfl ?_; simp only [binOp, Sem.run_bind, run_equal_ptr1 hu, Result.andThen_ok, Sem.run_pure]; (try rfl))
    · cases h
  · -- slices
    simp only [RelV] at hy; subst hy
    split at h
    · rename_i hu
      simp only [RelV] at hx; subst hx
      split at h <;> first | (cases h; done) | (simp only [Option.some.injEq] at h; subst h; refine key _ (relBool _) rfl ?_; simp only [binOp, Sem.run_bind, run_equal_sl0 hu, Result.andThen_ok, Sem.run_pure]; (try rfl))
    · rename_i hu
      simp only [RelV] at hx; obtain ⟨a, cap, rfl, _⟩ := hx
      split at h <;> first | (cases h; done) | (simp only [Option.some.injEq] at h; subst h; refine key _ (relBool _) rfl ?_; simp only [binOp, Sem.run_bind, run_equal_sl1 hu, Result.andThen_ok, Sem.run_pure]; (try rfl))
    · rename_i sz len cs r hu
      simp only [RelV] at hx; obtain ⟨A, cap, rfl, k1, k2, k3, k4, _⟩ := hx
      split at h
      · cases h
      · rename_i hl
        cases A with
        | none => exact absurd (k4 rfl).1 hl
        | some a =>
          split at h <;> first | (cases h; done) | (simp only [Option.some.injEq] at h; subst h; refine key _ (relBool _) rfl ?_; simp only [binOp, Sem.run_bind, run_equal_sl1 hu, Result.andThen_ok, Sem.run_pure]; (try rfl))
    · rename_i hu
      simp only [RelV] at hx; obtain ⟨_, cap, rfl, _⟩ := hx
      split at h <;> first | (cases h; done) | (simp only [Option.some.injEq] at h; subst h; refine key _ (relBool _) rfl ?_; simp only [binOp, Sem.run_bind, run_equal_sl1 hu, Result.andThen_ok, Sem.run_pure]; (try rfl))
    · cases h
  · cases h
end Go.Hb
