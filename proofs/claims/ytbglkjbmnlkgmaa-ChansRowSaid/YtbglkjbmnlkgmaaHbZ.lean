import Derived.Test.YtbglkjbmnlkgmaaHbY
namespace Go.Hb
open Go Go.RowKit
section
variable {P : Program} {r : Option Nat} {N : Nat} {own : Bool} {Q : Exit → St → Prop} {K K0 K1 : St → Prop} {st st' : St}

def aSeq (P : Program) (r : Option Nat) (N : Nat) (own : Bool) (y : Code) (Q : Exit → St → Prop) : Exit → St → Prop := aThen (aC P r N own y Q) Q
def aBr (c : LV) (K0 K1 : St → Prop) (st : St) : Prop := match c with | .bool b => if b = true then K0 st else K1 st | _ => False
def aSome (o : Option (LV × List AObj × List Nat)) (K : LV → List AObj → List Nat → Prop) : Prop := match o with | some (x, s, v) => K x s v | none => False
def aPut (d : Option Tmp) (t : Nat → LV) (K : St → Prop) : LV → List AObj → List Nat → Prop := fun x s v => K ⟨updO d x t, s, v⟩
def aCallee (c : Callee') (P : Program) (own : Bool) (o : Oper) (K : St → Prop) (st : St) : Prop := match c with
  | .func f args => aCalls P f args st.s st.v (aPut o.dst st.t K)
  | .yld l args => aRound P l args st.s st.v (aPut o.dst st.t K)
  | .bad => False
  | .no => aSome (aopO P own o.op st) (aPut o.dst st.t K)
def aDo (P : Program) (own : Bool) (o : Oper) (K : St → Prop) (st : St) : Prop := aCallee (callee o.op st.t) P own o K st
def aSkip (d : Option Tmp) (K : St → Prop) (st : St) : Prop := K ⟨updO d (.tup []) st.t, st.s, st.v⟩
def aG (g : Option Bool) (K0 K1 : St → Prop) (st : St) : Prop := match g with | some false => K0 st | some true => K1 st | none => False

@[simp] theorem lC_skip : aC P r N own .skip Q st = Q .normal st := rfl
@[simp] theorem lC_ret : aC P r N own .ret Q st = Q .ret st := rfl
@[simp] theorem lC_label (l : Nat) : aC P r N own (.label l) Q st = Q .normal st := rfl
@[simp] theorem lC_exit (id : Nat) : aC P r N own (.exit id) Q st = Q (.exit id) st := rfl
@[simp] theorem lC_seq (x y : Code) : aC P r N own (.seq x y) Q st = aC P r N own x (aSeq P r N own y Q) st := rfl
@[simp] theorem lC_cond (c : Operand) (x y : Code) : aC P r N own (.cond c x y) Q st = aBr (aev st.t c) (aC P r N own x Q) (aC P r N own y Q) st := by
  simp only [aC, aIf, aBr]
  cases aev st.t c <;> rfl
@[simp] theorem lC_block (id : Nat) (x : Code) : aC P r N own (.block id x) Q st = aC P r N own x (aInBlock id Q) st := rfl
@[simp] theorem lC_region (id : Nat) (l : List Oper) : aC P r N own (.region id l.toArray false) Q st = aL P N l.toArray own l (Q .normal) st := rfl
@[simp] theorem lC_drawn (id : Nat) (ops : Array Oper) : aC P r N own (.region id ops true) Q st = aW P r N (.region id ops true) Q st := rfl
@[simp] theorem lC_loop (c : Code) : aC P r N own (.loop c) Q st = aW P r N (.loop c) Q st := rfl
@[simp] theorem lC_scope (c : Code) : aC P r N own (.scope c) Q st = aW P r N (.scope c) Q st := rfl
@[simp] theorem lC_range (f : Operand) (ps : Array Tmp) (x y : Code) : aC P r N own (.rangeFunc f ps x y) Q st = aW P r N (.rangeFunc f ps x y) Q st := rfl
@[simp] theorem lSeq_normal (y : Code) : aSeq P r N own y Q .normal st = aC P r N own y Q st := rfl
@[simp] theorem lSeq_ret (y : Code) : aSeq P r N own y Q .ret st = Q .ret st := rfl
@[simp] theorem lSeq_exit (y : Code) (id : Nat) : aSeq P r N own y Q (.exit id) st = Q (.exit id) st := rfl
@[simp] theorem lBlock_normal (id : Nat) : aInBlock id Q .normal st = Q .normal st := rfl
@[simp] theorem lBlock_ret (id : Nat) : aInBlock id Q .ret st = Q .ret st := rfl
@[simp] theorem lBlock_self (id : Nat) : aInBlock id Q (.exit id) st = Q .normal st := by simp only [aInBlock, if_true]
theorem lBlock_exit (id id' : Nat) (h : (id' == id) = false) : aInBlock id Q (.exit id') st = Q (.exit id') st := by
  have : id' ≠ id := by simpa using h
  simp only [aInBlock, if_neg this]
@[simp] theorem lThen_normal (K : St → Prop) : aThen K Q .normal st = K st := rfl
@[simp] theorem lThen_ret (K : St → Prop) : aThen K Q .ret st = Q .ret st := rfl
@[simp] theorem lThen_exit (K : St → Prop) (id : Nat) : aThen K Q (.exit id) st = Q (.exit id) st := rfl
@[simp] theorem lBr (b : Bool) : aBr (.bool b) K0 K1 st = if b = true then K0 st else K1 st := rfl
@[simp] theorem lL_nil (ops : Array Oper) : aL P N ops own [] K st = K st := rfl
@[simp] theorem lL_cons (ops : Array Oper) (o : Oper) (rest : List Oper) : aL P N ops own (o :: rest) K st = (dOk N o.dst ∧ aG (aGuard ops st.t o) (aSkip o.dst (aL P N ops own rest K)) (aDo P own o (aL P N ops own rest K)) st) := by
  simp only [aL, aOper, aG, aSkip, aDo, aCallee, aSome, aPut]
  cases aGuard ops st.t o with
  | none => rfl
  | some b => cases b <;> rfl
@[simp] theorem lG_false : aG (some false) K0 K1 st = K0 st := rfl
@[simp] theorem lG_true : aG (some true) K0 K1 st = K1 st := rfl
@[simp] theorem lSkip (d : Option Tmp) : aSkip d K st = K ⟨updO d (.tup []) st.t, st.s, st.v⟩ := rfl
@[simp] theorem lDo (o : Oper) : aDo P own o K st = aCallee (callee o.op st.t) P own o K st := rfl
@[simp] theorem lCallee_func (o : Oper) (f : FuncId) (args : List LV) : aCallee (.func f args) P own o K st = aCalls P f args st.s st.v (aPut o.dst st.t K) := rfl
@[simp] theorem lCallee_yld (o : Oper) (l : Nat) (args : List LV) : aCallee (.yld l args) P own o K st = aRound P l args st.s st.v (aPut o.dst st.t K) := rfl
@[simp] theorem lCallee_no (o : Oper) : aCallee .no P own o K st = aSome (aopO P own o.op st) (aPut o.dst st.t K) := rfl
@[simp] theorem lSome (x : LV) (s : List AObj) (v : List Nat) (K : LV → List AObj → List Nat → Prop) : aSome (some (x, s, v)) K = K x s v := rfl
@[simp] theorem lPut (d : Option Tmp) (t : Nat → LV) (x : LV) (s : List AObj) (v : List Nat) : aPut d t K x s v = K ⟨updO d x t, s, v⟩ := rfl

/-! ### what is not looked at yet -/
@[congr] theorem sC {c : Code} (h : st = st') : aC P r N own c Q st = aC P r N own c Q st' := by rw [h]
@[congr] theorem sW {c : Code} (h : st = st') : aW P r N c Q st = aW P r N c Q st' := by rw [h]
@[congr] theorem sSeq {y : Code} {e e' : Exit} (h0 : e = e') (h : st = st') : aSeq P r N own y Q e st = aSeq P r N own y Q e' st' := by rw [h, h0]
@[congr] theorem sBlock {id : Nat} {e e' : Exit} (h0 : e = e') (h : st = st') : aInBlock id Q e st = aInBlock id Q e' st' := by rw [h, h0]
@[congr] theorem sThen {e e' : Exit} (h0 : e = e') (h : st = st') : aThen K Q e st = aThen K Q e' st' := by rw [h, h0]
@[congr] theorem sBr {c c' : LV} (h0 : c = c') : aBr c K0 K1 st = aBr c' K0 K1 st := by rw [h0]
@[congr] theorem sSome {o o' : Option (LV × List AObj × List Nat)} {K : LV → List AObj → List Nat → Prop} (h : o = o') : aSome o K = aSome o' K := by rw [h]
@[congr] theorem sCallee {c c' : Callee'} {o : Oper} (h : c = c') : aCallee c P own o K st = aCallee c' P own o K st := by rw [h]
@[congr] theorem sG {g g' : Option Bool} (h : g = g') : aG g K0 K1 st = aG g' K0 K1 st := by rw [h]
@[congr] theorem sL {ops : Array Oper} {l : List Oper} (h : st = st') : aL P N ops own l K st = aL P N ops own l K st' := by rw [h]
@[congr] theorem sPlan {ops : Array Oper} {p p' : Plan} {W W' : List (Nat × LV)} (h0 : p = p') (h1 : W = W') (h : st = st') : aPlan P N ops K p W st = aPlan P N ops K p' W' st' := by rw [h, h0, h1]
@[congr] theorem sBody {fn : Func} {R : LV → List AObj → List Nat → Prop} {e e' : Exit} (h0 : e = e') (h : st = st') : bodyQ P fn R e st = bodyQ P fn R e' st' := by rw [h, h0]
end
@[congr] theorem sCalls {P : Program} {f : FuncId} {args args' : List LV} {s s' : List AObj} {v v' : List Nat} {R : LV → List AObj → List Nat → Prop} (h1 : args = args') (h2 : s = s') (h3 : v = v') : aCalls P f args s v R = aCalls P f args' s' v' R := by rw [h1, h2, h3]
@[congr] theorem sRound {P : Program} {l : Nat} {args args' : List LV} {s s' : List AObj} {v v' : List Nat} {R : LV → List AObj → List Nat → Prop} (h1 : args = args') (h2 : s = s') (h3 : v = v') : aRound P l args s v R = aRound P l args' s' v' R := by rw [h1, h2, h3]
end Go.Hb
