/-
  A layer for reasoning about the program's calls, and contracts of its functions (L3). CONDITIONS: none; each theorem bears its own.
-/
import Derived.Test.YtdnbmcnckojglaaGreatL2
set_option linter.unusedVariables false
set_option linter.unusedSimpArgs false
namespace Go.Hb
open Go Go.RowKit

def aUn (op : UnOp) (x : LV) : Option LV := match op, x with
 | .not, .bool b => some (.bool (!b))
 | .neg, .int k n => some (.int k (k.wrap (0 - n)))
 | _, _ => none

theorem aUn_sound {P : Program} {C : Ctx} {s : List AObj} {op : UnOp} {x y : LV} {v : Value} (hok : Ok C s) (hx : RelV C x v) (h : aUn op x = some y) : Runs P C (Op.unary op v) y s C.τ := by
 unfold aUn at h
 split at h
 ·simp only [RelV] at hx; subst hx; simp at h; subst h
  exact Runs.quiet hok (relBool _) (by simp [Op.unary])
 ·simp only [RelV] at hx; subst hx; simp at h; subst h
  exact Runs.quiet hok (relInt _ _) (by simp [Op.unary, Op.intArith])
 ·cases h

def aConv (P : Program) (src dst : TypeId) (x : LV) : Option LV := match P.underlying src, P.underlying dst, x with
 | some _, some (.int k), .int _ n => some (.int k (k.wrap n))
 | some .string, some .string, .str b => some (.str b)
 | _, _, _ => none

theorem aConv_sound {P : Program} {C : Ctx} {s : List AObj} {src dst : TypeId} {x y : LV} {v : Value} (hok : Ok C s) (hx : RelV C x v) (h : aConv P src dst x = some y) : Runs P C (convert src dst v) y s C.τ := by
 unfold aConv at h
 split at h
 ·rename_i hu hd
  simp only [RelV] at hx; subst hx; simp at h; subst h
  refine Runs.quiet hok (relInt _ _) ?_
  simp [convert, run_underlying hu, run_underlying hd, Conv.intToInt]
 ·rename_i hu hd
  simp only [RelV] at hx; subst hx; simp at h; subst h
  refine Runs.quiet hok (relStr _) ?_
  simp [convert, run_underlying hu, run_underlying hd]
 ·cases h

def aLen (P : Program) (t : TypeId) (x : LV) : Option LV := match P.underlying t, x with
 | some .string, .str b => some (.int .i64 b.size)
 | some (.slice _), .nils => some (.int .i64 0)
 | some (.slice _), .emp _ => some (.int .i64 0)
 | some (.slice _), .imm _ n _ _ => some (.int .i64 n)
 | some (.slice _), .ref _ _ _ n _ => some (.int .i64 n)
 | some (.array n _), _ => some (.int .i64 n)
 | _, _ => none

theorem aLen_sound {P : Program} {C : Ctx} {s : List AObj} {t ty : TypeId} {x y : LV} {v : Value} (hok : Ok C s) (hx : RelV C x v) (h : aLen P t x = some y) : Runs P C (Builtin.len_ #[t] ty #[v]) y s C.τ := by
 unfold aLen at h
 split at h
 ·rename_i hu
  simp only [RelV] at hx; subst hx; simp at h; subst h
  exact Runs.quiet hok (relInt _ _) (by simp [Builtin.len_, run_underlying hu, goInt])
 ·rename_i hu
  simp only [RelV] at hx; subst hx; simp at h; subst h
  exact Runs.quiet hok (relInt _ _) (by simp [Builtin.len_, run_underlying hu, goInt])
 ·rename_i hu
  simp only [RelV] at hx; obtain ⟨a, cap, rfl, _⟩ := hx; simp at h; subst h
  exact Runs.quiet hok (relInt _ _) (by simp [Builtin.len_, run_underlying hu, goInt])
 ·rename_i hu
  simp only [RelV] at hx; obtain ⟨A, cap, rfl, _⟩ := hx; simp at h; subst h
  exact Runs.quiet hok (relInt _ _) (by simp [Builtin.len_, run_underlying hu, goInt])
 ·rename_i hu
  simp only [RelV] at hx; obtain ⟨_, cap, rfl, _⟩ := hx; simp at h; subst h
  exact Runs.quiet hok (relInt _ _) (by simp [Builtin.len_, run_underlying hu, goInt])
 ·rename_i n e hu
  simp at h; subst h
  exact Runs.quiet hok (relInt _ _) (by simp [Builtin.len_, run_underlying hu, goInt])
 ·cases h

def aMinMax (mx : Bool) (x y : LV) : Option LV := match x, y with
 | .int k a, .int k' b => if k = k' then some (.int k (if mx then (if a < b then b else a) else (if b < a then b else a))) else none
 | _, _ => none

theorem aMin_sound {P : Program} {C : Ctx} {s : List AObj} {at_ : Array TypeId} {ty : TypeId} {x y z : LV} {v u : Value} (hok : Ok C s) (hx : RelV C x v) (hy : RelV C y u) (h : aMinMax false x y = some z) : Runs P C (Builtin.min_ at_ ty #[v, u]) z s C.τ := by
 unfold aMinMax at h
 split at h
 ·simp only [RelV] at hx hy; subst hx; subst hy
  split at h
  ·rename_i e; subst e; simp only [Option.some.injEq, Bool.false_eq_true, if_false] at h; subst h
   exact Runs.quiet hok (relInt _ _) (by simp [Builtin.min_, Builtin.min2])
  ·cases h
 ·cases h

theorem aMax_sound {P : Program} {C : Ctx} {s : List AObj} {at_ : Array TypeId} {ty : TypeId} {x y z : LV} {v u : Value} (hok : Ok C s) (hx : RelV C x v) (hy : RelV C y u) (h : aMinMax true x y = some z) : Runs P C (Builtin.max_ at_ ty #[v, u]) z s C.τ := by
 unfold aMinMax at h
 split at h
 ·simp only [RelV] at hx hy; subst hx; subst hy
  split at h
  ·rename_i e; subst e; simp only [Option.some.injEq, if_true] at h; subst h
   exact Runs.quiet hok (relInt _ _) (by simp [Builtin.max_, Builtin.max2])
  ·cases h
 ·cases h

def aExtract (x : LV) (i : Nat) : Option LV := match x with | .tup vs => vs[i]? | _ => none
theorem aExtract_sound {P : Program} {C : Ctx} {s : List AObj} {x y : LV} {i : Nat} {v : Value} (hok : Ok C s) (hx : RelV C x v) (h : aExtract x i = some y) : Runs P C (Instr.extract v i) y s C.τ := by
 unfold aExtract at h
 split at h
 ·simp only [RelV] at hx; obtain ⟨vs, rfl, h1⟩ := hx
  obtain ⟨u, h2, h3⟩ := h1.get h
  have h2' : vs[i]? = some u := by simpa using h2
  exact Runs.quiet hok h3 (by simp [Instr.extract, h2'])
 ·cases h

theorem relVs_map {C : Ctx} {t : Nat → LV} {a : Act} (r : RelT C t a.tmps) : ∀ l : List Operand, RelVs C (l.map (aev t)) (l.map a.eval) := by
 intro l
 induction l with
 | nil => simp [RelVs]
 | cons x l ih => exact ⟨_, _, rfl, aev_rel r x, ih⟩

def aNil (x : LV) : Option LV := match x with
 | .ptr id off => some (.ptr id off)
 | .eptr cs => some (.eptr cs)
 | .fn (.func f) a b => some (.fn (.func f) a b)
 | .yld id => some (.yld id)
 | _ => none

def aBuiltin (P : Program) (b : Builtin) (at_ : List TypeId) (args : List LV) (st : St) : Option (LV × List AObj × List Nat) := match b, at_, args with
 | .len, [t], [x] => (aLen P t x).map (·, st.s, st.v)
 | .append, [t, t2], [x, y] => (aAppend P t t2 x y st.s st.v).map fun (r, v) => (r, st.s, v)
 | .clear, [t], [x] => (aClear P t x st.s).map fun s => (.tup [], s, st.v)
 | .min, _, [x, y] => (aMinMax false x y).map (·, st.s, st.v)
 | .max, _, [x, y] => (aMinMax true x y).map (·, st.s, st.v)
 | .delete, [t, _], [m, k] => (aDelete P t m k st.s).map fun s => (.tup [], s, st.v)
 | _, _, _ => none

def aop (P : Program) (o : Op) (st : St) : Option (LV × List AObj × List Nat) := match o with
 | .move x | .assign x => some (aev st.t x, st.s, st.v)
 | .pick c a b => match aev st.t c with
  | .bool t => some (if t then aev st.t a else aev st.t b, st.s, st.v)
  | _ => none
 | .alloc e => (aAlloc P e st.s).map fun (x, s) => (x, s, st.v)
 | .box _ x => (aNew (aev st.t x) st.s).map fun (x, s) => (x, s, st.v)
 | .build t parts => (aBuild P t (parts.toList.map fun p => (p.1, aev st.t p.2))).map (·, st.s, st.v)
 | .buildSlice t len parts => (aBuildSlice P t len (parts.toList.map fun p => (p.1, aev st.t p.2))).map (·, st.s, st.v)
 | .load t a => (aLoad P t (aev st.t a) st.s).map (·, st.s, st.v)
 | .store t a x => (aStore P t (aev st.t a) (aev st.t x) st.s).map fun s => (.any, s, st.v)
 | .nilCheck x => (aNil (aev st.t x)).map (·, st.s, st.v)
 | .binOp op t x y _ => (aBin P op t (aev st.t x) (aev st.t y)).map (·, st.s, st.v)
 | .unOp op _ x => (aUn op (aev st.t x)).map (·, st.s, st.v)
 | .convert src dst x => (aConv P src dst (aev st.t x)).map (·, st.s, st.v)
 | .makeFunc fn first captured => some (.fn fn (first.toList.map (aev st.t)) (captured.toList.map (aev st.t)), st.s, st.v)
 | .makeSlice t l c => (aMakeSlice P t (aev st.t l) (aev st.t c) st.s).map fun (x, s) => (x, s, st.v)
 | .makeMap _ none => some ((aMakeMap st.s).1, (aMakeMap st.s).2, st.v)
 | .lookup t x i ok => (aLookup P t (aev st.t x) (aev st.t i) ok st.s).map (·, st.s, st.v)
 | .mapUpdate t m k x | .insert t m k x => (aMapUpdate P t (aev st.t m) (aev st.t k) (aev st.t x) st.s).map fun s => (.any, s, st.v)
 | .slice t x lo hi mx => (aSlice P t (aev st.t x) (lo.map (aev st.t)) (hi.map (aev st.t)) (mx.map (aev st.t))).map (·, st.s, st.v)
 | .fieldAddr t x f => (aFieldAddr P t (aev st.t x) f).map (·, st.s, st.v)
 | .field t x f => (aField P t (aev st.t x) f).map (·, st.s, st.v)
 | .indexAddr t x i => (aIndexAddr P t (aev st.t x) (aev st.t i)).map (·, st.s, st.v)
 | .index t x i => (aIndex P t (aev st.t x) (aev st.t i)).map (·, st.s, st.v)
 | .extract x i => (aExtract (aev st.t x) i).map (·, st.s, st.v)
 | .call c => match c.callee with
  | .builtin b => aBuiltin P b c.argTypes.toList (c.args.toList.map (aev st.t)) st
  | _ => none
 | _ => none

def Done (P : Program) (C : Ctx) (o : Oper) (a : Act) (x : LV) (s : List AObj) (v : List Nat) : Prop :=
 ∃ C' u, C.le C' ∧ Ok C' s ∧ C'.τ = v ∧ RelV C' x u ∧ ((execOp a.eval o).run P C.w = .ok (.value u) C'.w ∨ ((execOp a.eval o).run P C.w = .ok .skip C'.w ∧ u = undef))

theorem Runs.done {P : Program} {C : Ctx} {m : Sem Value} {o : Oper} {a : Act} {x : LV} {s : List AObj} {v : List Nat} (h : Runs P C m x s v) (e : execOp a.eval o = (do pure (.value (← m)))) : Done P C o a x s v := by
 obtain ⟨C', u, h1, h2, h3, h4, h5⟩ := h
 exact ⟨C', u, h1, h2, h3, h4, .inl (by rw [e]; simp [h5])⟩

theorem relOV {C : Ctx} {t : Nat → LV} {a : Act} (r : RelT C t a.tmps) (x : Option Operand) : RelOV C (x.map (aev t)) (x.map a.eval) := by
 cases x with
 | none => trivial
 | some x => exact aev_rel r x

set_option maxHeartbeats 2000000 in
theorem aop_sound {P : Program} {C : Ctx} {st : St} {o : Oper} {a : Act} {x : LV} {s : List AObj} {v : List Nat} (hok : Ok C st.s) (hv : C.τ = st.v) (hT : RelT C st.t a.tmps) (h : aop P o.op st = some (x, s, v)) : Done P C o a x s v := by
 obtain ⟨dst, op, type, pos, after, guard⟩ := o
 unfold aop at h
 cases op <;> simp only at h <;> (try (cases h; done))
 case move y =>
  simp only [Option.some.injEq, Prod.mk.injEq] at h; obtain ⟨rfl, rfl, rfl⟩ := h
  exact ⟨C, _, .refl C, hok, hv, aev_rel hT y, .inl rfl⟩
 case assign y =>
  simp only [Option.some.injEq, Prod.mk.injEq] at h; obtain ⟨rfl, rfl, rfl⟩ := h
  exact ⟨C, _, .refl C, hok, hv, aev_rel hT y, .inl rfl⟩
 case pick c y z =>
  split at h
  ·rename_i t hc
   simp only [Option.some.injEq, Prod.mk.injEq] at h; obtain ⟨rfl, rfl, rfl⟩ := h
   have h1 := aev_rel hT c
   rw [hc] at h1; simp only [RelV] at h1
   refine ⟨C, if t then a.eval y else a.eval z, .refl C, hok, hv, ?_, .inl ?_⟩
   ·cases t
    ·exact aev_rel hT z
    ·exact aev_rel hT y
   ·simp [execOp, h1, asBool]
  ·cases h
 case alloc e =>
  simp only [Option.map_eq_some_iff] at h
  obtain ⟨⟨y, s'⟩, h1, h2⟩ := h
  simp only [Prod.mk.injEq] at h2; obtain ⟨rfl, rfl, rfl⟩ := h2
  rw [← hv]; exact (aAlloc_sound hok h1).done rfl
 case box e y =>
  simp only [Option.map_eq_some_iff] at h
  obtain ⟨⟨z, s'⟩, h1, h2⟩ := h
  simp only [Prod.mk.injEq] at h2; obtain ⟨rfl, rfl, rfl⟩ := h2
  rw [← hv]; exact (aBox_sound hok (aev_rel hT y) h1).done rfl
 case build t parts =>
  simp only [Option.map_eq_some_iff] at h
  obtain ⟨y, h1, h2⟩ := h
  simp only [Prod.mk.injEq] at h2; obtain ⟨rfl, rfl, rfl⟩ := h2
  rw [← hv]
  refine (aBuild_sound (pv := parts.map fun p => (p.1, a.eval p.2)) hok (by simp [List.map_map]) ?_ h1).done rfl
  have := relVs_map hT (parts.toList.map (·.2))
  rw [List.map_map, List.map_map] at this
  rw [Array.toList_map, List.map_map, List.map_map]
  exact this
 case buildSlice t len parts =>
  simp only [Option.map_eq_some_iff] at h
  obtain ⟨y, h1, h2⟩ := h
  simp only [Prod.mk.injEq] at h2; obtain ⟨rfl, rfl, rfl⟩ := h2
  rw [← hv]
  refine (aBuildSlice_sound (pv := parts.map fun p => (p.1, a.eval p.2)) hok (by simp [List.map_map]) ?_ h1).done rfl
  have := relVs_map hT (parts.toList.map (·.2))
  rw [List.map_map, List.map_map] at this
  rw [Array.toList_map, List.map_map, List.map_map]
  exact this
 case load t p =>
  simp only [Option.map_eq_some_iff] at h
  obtain ⟨y, h1, h2⟩ := h
  simp only [Prod.mk.injEq] at h2; obtain ⟨rfl, rfl, rfl⟩ := h2
  rw [← hv]; exact (aLoad_sound hok (aev_rel hT p) h1).done rfl
 case store t p y =>
  simp only [Option.map_eq_some_iff] at h
  obtain ⟨s', h1, h2⟩ := h
  simp only [Prod.mk.injEq] at h2; obtain ⟨rfl, rfl, rfl⟩ := h2
  obtain ⟨C', k1, k2, k3, k4⟩ := aStore_sound hok (aev_rel hT p) (aev_rel hT y) h1
  exact ⟨C', undef, k1, k2, k3.trans hv, by simp [RelV], .inr ⟨by simp [execOp, k4], rfl⟩⟩
 case nilCheck y =>
  simp only [Option.map_eq_some_iff] at h
  obtain ⟨z, h1, h2⟩ := h
  simp only [Prod.mk.injEq] at h2; obtain ⟨rfl, rfl, rfl⟩ := h2
  have hr := aev_rel hT y
  refine ⟨C, a.eval y, .refl C, hok, hv, ?_, .inl ?_⟩
  ·unfold aNil at h1
   split at h1 <;> first | (cases h1; done) | (rename_i e; simp at h1; subst h1; rw [e] at hr; exact hr)
  ·unfold aNil at h1
   split at h1 <;> first | (cases h1; done) | skip
   ·rename_i e; rw [e] at hr; simp only [RelV] at hr; simp [execOp, hr.2]
   ·rename_i e; rw [e] at hr; simp only [RelV] at hr; obtain ⟨b, o, hr, _⟩ := hr; simp [execOp, hr]
   ·rename_i e; rw [e] at hr; simp only [RelV] at hr; obtain ⟨b, o, hr, _⟩ := hr; simp [execOp, hr]
   ·rename_i e; rw [e] at hr; simp only [RelV] at hr; simp [execOp, hr.2]
 case binOp op t y z ty =>
  simp only [Option.map_eq_some_iff] at h
  obtain ⟨r, h1, h2⟩ := h
  simp only [Prod.mk.injEq] at h2; obtain ⟨rfl, rfl, rfl⟩ := h2
  rw [← hv]; exact (aBin_sound hok (aev_rel hT y) (aev_rel hT z) h1).done rfl
 case unOp op t y =>
  simp only [Option.map_eq_some_iff] at h
  obtain ⟨r, h1, h2⟩ := h
  simp only [Prod.mk.injEq] at h2; obtain ⟨rfl, rfl, rfl⟩ := h2
  rw [← hv]; exact (aUn_sound hok (aev_rel hT y) h1).done rfl
 case convert src d y =>
  simp only [Option.map_eq_some_iff] at h
  obtain ⟨r, h1, h2⟩ := h
  simp only [Prod.mk.injEq] at h2; obtain ⟨rfl, rfl, rfl⟩ := h2
  rw [← hv]; exact (aConv_sound hok (aev_rel hT y) h1).done rfl
 case makeFunc f first captured =>
  simp only [Option.some.injEq, Prod.mk.injEq] at h; obtain ⟨rfl, rfl, rfl⟩ := h
  refine ⟨C, .func f (first.map a.eval) (captured.map a.eval), .refl C, hok, hv, ?_, .inl rfl⟩
  simp only [RelV]
  exact ⟨_, _, rfl, by simpa using relVs_map hT first.toList, by simpa using relVs_map hT captured.toList⟩
 case makeSlice t l c =>
  simp only [Option.map_eq_some_iff] at h
  obtain ⟨⟨z, s'⟩, h1, h2⟩ := h
  simp only [Prod.mk.injEq] at h2; obtain ⟨rfl, rfl, rfl⟩ := h2
  rw [← hv]; exact (aMakeSlice_sound hok (aev_rel hT l) (aev_rel hT c) h1).done rfl
 case makeMap t r =>
  cases r with
  | some r => simp at h
  | none =>
   simp only [Option.some.injEq, Prod.mk.injEq] at h; obtain ⟨rfl, rfl, rfl⟩ := h
   rw [← hv]; exact (aMakeMap_sound hok).done rfl
 case lookup t y i ok =>
  simp only [Option.map_eq_some_iff] at h
  obtain ⟨r, h1, h2⟩ := h
  simp only [Prod.mk.injEq] at h2; obtain ⟨rfl, rfl, rfl⟩ := h2
  rw [← hv]; exact (aLookup_sound hok (aev_rel hT y) (aev_rel hT i) h1).done rfl
 case mapUpdate t m k y =>
  simp only [Option.map_eq_some_iff] at h
  obtain ⟨s', h1, h2⟩ := h
  simp only [Prod.mk.injEq] at h2; obtain ⟨rfl, rfl, rfl⟩ := h2
  obtain ⟨C', k1, k2, k3, k4⟩ := aMapUpdate_sound hok (aev_rel hT m) (aev_rel hT k) (aev_rel hT y) h1
  exact ⟨C', undef, k1, k2, k3.trans hv, by simp [RelV], .inr ⟨by simp [execOp, k4], rfl⟩⟩
 case insert t m k y =>
  simp only [Option.map_eq_some_iff] at h
  obtain ⟨s', h1, h2⟩ := h
  simp only [Prod.mk.injEq] at h2; obtain ⟨rfl, rfl, rfl⟩ := h2
  obtain ⟨C', k1, k2, k3, k4⟩ := aMapUpdate_sound hok (aev_rel hT m) (aev_rel hT k) (aev_rel hT y) h1
  exact ⟨C', undef, k1, k2, k3.trans hv, by simp [RelV], .inr ⟨by simp [execOp, k4], rfl⟩⟩
 case slice t y lo hi mx =>
  simp only [Option.map_eq_some_iff] at h
  obtain ⟨r, h1, h2⟩ := h
  simp only [Prod.mk.injEq] at h2; obtain ⟨rfl, rfl, rfl⟩ := h2
  rw [← hv]; exact (aSlice_sound hok (aev_rel hT y) (relOV hT lo) (relOV hT hi) (relOV hT mx) h1).done rfl
 case fieldAddr t y f =>
  simp only [Option.map_eq_some_iff] at h
  obtain ⟨r, h1, h2⟩ := h
  simp only [Prod.mk.injEq] at h2; obtain ⟨rfl, rfl, rfl⟩ := h2
  rw [← hv]; exact (aFieldAddr_sound hok (aev_rel hT y) h1).done rfl
 case field t y f =>
  simp only [Option.map_eq_some_iff] at h
  obtain ⟨r, h1, h2⟩ := h
  simp only [Prod.mk.injEq] at h2; obtain ⟨rfl, rfl, rfl⟩ := h2
  rw [← hv]; exact (aField_sound hok (aev_rel hT y) h1).done rfl
 case indexAddr t y i =>
  simp only [Option.map_eq_some_iff] at h
  obtain ⟨r, h1, h2⟩ := h
  simp only [Prod.mk.injEq] at h2; obtain ⟨rfl, rfl, rfl⟩ := h2
  rw [← hv]; exact (aIndexAddr_sound hok (aev_rel hT y) (aev_rel hT i) h1).done rfl
 case index t y i =>
  simp only [Option.map_eq_some_iff] at h
  obtain ⟨r, h1, h2⟩ := h
  simp only [Prod.mk.injEq] at h2; obtain ⟨rfl, rfl, rfl⟩ := h2
  rw [← hv]; exact (aIndex_sound hok (aev_rel hT y) (aev_rel hT i) h1).done rfl
 case extract y i =>
  simp only [Option.map_eq_some_iff] at h
  obtain ⟨r, h1, h2⟩ := h
  simp only [Prod.mk.injEq] at h2; obtain ⟨rfl, rfl, rfl⟩ := h2
  rw [← hv]; exact (aExtract_sound hok (aev_rel hT y) h1).done rfl
 case call c =>
  obtain ⟨callee, args, argTypes⟩ := c
  cases callee <;> simp only at h <;> (try (cases h; done))
  rename_i b
  have hargs := relVs_map hT args.toList
  unfold aBuiltin at h
  have two : ∀ {x y : LV}, args.toList.map (aev st.t) = [x, y] → ∃ u w, args.map a.eval = #[u, w] ∧ RelV C x u ∧ RelV C y w := by
   intro x y e
   rw [e] at hargs
   obtain ⟨u, r, e1, h1, w, r', e2, h2, h3⟩ := hargs
   simp only [RelVs] at h3
   subst h3; subst e2
   exact ⟨u, w, by apply Array.ext'; simpa using e1, h1, h2⟩
  have one : ∀ {x : LV}, args.toList.map (aev st.t) = [x] → ∃ u, args.map a.eval = #[u] ∧ RelV C x u := by
   intro x e
   rw [e] at hargs
   obtain ⟨u, r, e1, h1, h3⟩ := hargs
   simp only [RelVs] at h3
   subst h3
   exact ⟨u, by apply Array.ext'; simpa using e1, h1⟩
  split at h
  ·rename_i t y e1 e2
   obtain ⟨u, e3, hr⟩ := one e2
   simp only [Option.map_eq_some_iff] at h
   obtain ⟨r, h1, h2⟩ := h
   simp only [Prod.mk.injEq] at h2; obtain ⟨rfl, rfl, rfl⟩ := h2
   have e4 : argTypes = #[t] := by apply Array.ext'; simpa using e1
   subst e4
   rw [← hv]; exact (aLen_sound (ty := type) hok hr h1).done (by simp [execOp, resolve, invoke, builtin, e3])
  ·rename_i t t2 y z e1 e2
   obtain ⟨u, w, e3, hr1, hr2⟩ := two e2
   simp only [Option.map_eq_some_iff] at h
   obtain ⟨⟨r, v'⟩, h1, h2⟩ := h
   simp only [Prod.mk.injEq] at h2; obtain ⟨rfl, rfl, rfl⟩ := h2
   have e4 : argTypes = #[t, t2] := by apply Array.ext'; simpa using e1
   subst e4
   rw [← hv] at h1
   exact (aAppend_sound (ty := type) hok hr1 hr2 h1).done (by simp [execOp, resolve, invoke, builtin, e3])
  ·rename_i t y e1 e2
   obtain ⟨u, e3, hr⟩ := one e2
   simp only [Option.map_eq_some_iff] at h
   obtain ⟨s', h1, h2⟩ := h
   simp only [Prod.mk.injEq] at h2; obtain ⟨rfl, rfl, rfl⟩ := h2
   have e4 : argTypes = #[t] := by apply Array.ext'; simpa using e1
   subst e4
   obtain ⟨C', k1, k2, k3, k4⟩ := aClear_sound (ty := type) hok hr h1
   exact ⟨C', .tuple #[], k1, k2, k3.trans hv, by simp only [RelV]; exact ⟨#[], rfl, by simp [RelVs]⟩, .inl (by simp [execOp, resolve, invoke, builtin, e3, k4])⟩
  ·rename_i y z e2
   obtain ⟨u, w, e3, hr1, hr2⟩ := two e2
   simp only [Option.map_eq_some_iff] at h
   obtain ⟨r, h1, h2⟩ := h
   simp only [Prod.mk.injEq] at h2; obtain ⟨rfl, rfl, rfl⟩ := h2
   rw [← hv]; exact (aMin_sound (ty := type) (at_ := argTypes) hok hr1 hr2 h1).done (by simp [execOp, resolve, invoke, builtin, e3])
  ·rename_i y z e2
   obtain ⟨u, w, e3, hr1, hr2⟩ := two e2
   simp only [Option.map_eq_some_iff] at h
   obtain ⟨r, h1, h2⟩ := h
   simp only [Prod.mk.injEq] at h2; obtain ⟨rfl, rfl, rfl⟩ := h2
   rw [← hv]; exact (aMax_sound (ty := type) (at_ := argTypes) hok hr1 hr2 h1).done (by simp [execOp, resolve, invoke, builtin, e3])
  ·rename_i t t2 m k e1 e2
   obtain ⟨u, w, e3, hr1, hr2⟩ := two e2
   simp only [Option.map_eq_some_iff] at h
   obtain ⟨s', h1, h2⟩ := h
   simp only [Prod.mk.injEq] at h2; obtain ⟨rfl, rfl, rfl⟩ := h2
   have e4 : argTypes = #[t, t2] := by apply Array.ext'; simpa using e1
   subst e4
   obtain ⟨C', k1, k2, k3, k4⟩ := aDelete_sound (t2 := t2) (ty := type) hok hr1 hr2 h1
   exact ⟨C', .tuple #[], k1, k2, k3.trans hv, by simp only [RelV]; exact ⟨#[], rfl, by simp [RelVs]⟩, .inl (by simp [execOp, resolve, invoke, builtin, e3, k4])⟩
  ·cases h

def aAppendNew (P : Program) (t t2 : TypeId) (x y : LV) (s : List AObj) : Option (LV × List AObj) := match P.underlying t with
 | some (.slice e) => match szT P e, bytesT P e, zeroT P e with
  | some size, some by_, some z => if notInt P t2 = true ∧ z.cellsOk = true ∧ z.cells.length = size then
   match aHead size x, aCells size y s with
   | some (cs, n, .full), some (ds, m) => if n + m ≤ maxLen ∧ (n + m) * by_ ≤ 140737488355328 ∧ m ≠ 0 then some (.ref size s.length 0 (n + m) false, s ++ [.cells (cs ++ ds)]) else none
   | _, _ => none
   else none
  | _, _, _ => none
 | _ => none

theorem aAppendNew_sound {P : Program} {C : Ctx} {s s' : List AObj} {t t2 ty : TypeId} {x y r : LV} {v u : Value} (hok : Ok C s) (hx : RelV C x v) (hy : RelV C y u) (h : aAppendNew P t t2 x y s = some (r, s')) :
  Runs P C (Builtin.append_ #[t, t2] ty #[v, u]) r s' C.τ := by
 unfold aAppendNew at h
 split at h
 ·rename_i e hu
  split at h
  ·rename_i size by_ z hsz hby hz
   split at h
   ·rename_i hc
    obtain ⟨hc1, hc2, hc3⟩ := hc
    split at h
    ·rename_i cs n ds m hh hcs
     split at h
     ·rename_i hbd
      obtain ⟨hbd1, hbd2, hm⟩ := hbd
      simp only [Option.some.injEq, Prod.mk.injEq] at h
      obtain ⟨rfl, rfl⟩ := h
      have hx' := aHead_rel hx hh
      simp only [RelV] at hx'
      obtain ⟨A, cap, rfl, k1, k2, k3, k4, k5, k6, k7⟩ := hx'
      obtain ⟨us, q1, q2, q3, q4⟩ := aCells_sound (P := P) hok hy hcs
      unfold szT at hsz; unfold bytesT at hby; unfold zeroT at hz
      simp only [Option.map_eq_some_iff, Option.bind_eq_some_iff] at hsz hby hz
      obtain ⟨i, hi, hsz⟩ := hsz
      obtain ⟨i2, hi2, hby⟩ := hby
      rw [hi] at hi2; cases hi2
      obtain ⟨zv, ⟨i3, hi3, hz1⟩, hz2⟩ := hz
      rw [hi] at hi3; cases hi3
      unfold notInt at hc1
      subst hsz
      subst hby
      cases hu2 : P.underlying t2 with
      | none => simp [hu2] at hc1
      | some d2 =>
      have hd2 : ∀ k, d2 ≠ .int k := by intro k e; subst e; simp [hu2] at hc1
      have hcap : cap = n := k7
      have hold : ∃ os : List Value, RelVs C cs os ∧ (∀ u ∈ os, u.oneCell' = true) ∧ ∀ w' : World, w'.heap = C.w.heap → (Builtin.firstCells i.size n (.slice A n cap)).run P w' = .ok os.toArray w' := by
       have hhead : RelV C (.imm i.size n cs .no) (.slice A n cap) := by
        simp only [RelV]; exact ⟨A, cap, rfl, k1, k2, k3, k4, k5, k6, trivial⟩
       obtain ⟨os, o1, o2, o3, o4⟩ := aCells_sound (P := P) (size := i.size) (cs := cs) (n := n) hok hhead (by simp [aCells])
       exact ⟨os, o1, o2, fun w' hw => (o4 w' hw).2⟩
      obtain ⟨os, o1, o2, o3⟩ := hold
      have ol := o1.length
      have hrun := run_append_grows' (P := P) (w := C.w) t t2 ty e i zv hu d2 hu2 hd2 hi hz1 A n cap os.toArray us.toArray m u o3 q4 (by omega) hbd1 hbd2
      have hge := grownCap_ge C.w (n + m) cap e
      have hle2 := grownCap_le_maxLen C.w (n + m) cap e hbd1
      generalize grownCap C.w (n + m) cap e = gc at *
      let vs : Array Value := os.toArray ++ us.toArray ++ Builtin.zeroCells zv.cells (gc - (n + m))
      have hok2 := hok.drew
      have hle := C.le_drew.trans (hok2.le_push (.cells vs e))
      refine ⟨C.drew.push (.cells vs e), _, hle, hok2.push _ _ ?_, rfl, ?_, hrun⟩
      ·refine ⟨vs, e, os ++ us, (Builtin.zeroCells zv.cells (gc - (n + m))).toList, heap_new _ _, by simp [vs], (RelVs.mono hle _ _ o1).app (RelVs.mono hle _ _ q1), ?_⟩
       intro u' hu'
       rcases List.mem_append.1 hu' with h' | h'
       ·exact o2 u' h'
       ·exact q2 u' h'
      ·simp only [RelV]
       have hn : C.n = s.length := hok.n
       refine ⟨by simp [Ctx.push, Ctx.drew, hn], gc, ?_, hge, hle2, by simp, ?_⟩
       ·simp [Ctx.push, Ctx.drew, hn]
       ·have hzrel := ofVal_rel C zv z hz2
        have hzl : zv.cells.size = i.size := by have := (cellsOk_rel hc2 hzrel).1.length; simp at this; omega
        have e1 : (C.drew.push (.cells vs e)).ρ s.length = C.w.heap.size := by simp [Ctx.push, Ctx.drew, hn]
        have e2 : (C.drew.push (.cells vs e)).w.heap[C.w.heap.size]? = some (.cells vs e) := heap_new C.drew.w _
        have e3 : n + m + (gc - (n + m)) = gc := by omega
        have e4 : vs.size = gc * i.size := by
         have e5 := congrArg (· * i.size) e3
         simp only [Nat.add_mul] at e5
         simp [vs, size_zero', hzl]
         omega
        rw [e1]; unfold bs; rw [e2]; simp only [e4]; simp
     ·cases h
    ·cases h
   ·cases h
  ·cases h
 ·cases h


def aSl (size : Nat) (x : LV) : Bool := match x with
 | .nils => true
 | .emp _ => true
 | .imm sz _ _ _ => sz == size
 | .ref sz _ _ _ _ => sz == size
 | _ => false

def aAppendNil (P : Program) (t t2 : TypeId) (x y : LV) (s : List AObj) : Bool := match P.underlying t with
 | some (.slice e) => match szT P e with
  | some size => notInt P t2 && aSl size x && (match aCells size y s with | some (_, m) => m == 0 | none => false)
  | none => false
 | _ => false

theorem aAppendNil_sound {P : Program} {C : Ctx} {s : List AObj} {t t2 ty : TypeId} {x y : LV} {v u : Value} (hok : Ok C s) (hx : RelV C x v) (hy : RelV C y u) (h : aAppendNil P t t2 x y s = true) :
  Runs P C (Builtin.append_ #[t, t2] ty #[v, u]) x s C.τ := by
 unfold aAppendNil at h
 split at h
 ·rename_i e hu
  split at h
  ·rename_i size hsz
   simp only [Bool.and_eq_true] at h
   obtain ⟨⟨hc1, hsl⟩, h⟩ := h
   split at h
   ·rename_i ds m hcs
    have hm : m = 0 := by simpa using h
    subst hm
    obtain ⟨us, q1, q2, q3, q4⟩ := aCells_sound (P := P) hok hy hcs
    unfold szT at hsz
    simp only [Option.map_eq_some_iff] at hsz
    obtain ⟨i, hi, hsz⟩ := hsz
    subst hsz
    unfold notInt at hc1
    cases hu2 : P.underlying t2 with
    | none => simp [hu2] at hc1
    | some d2 =>
    have hd2 : ∀ k, d2 ≠ .int k := by intro k e; subst e; simp [hu2] at hc1
    have hus : us = [] := List.eq_nil_of_length_eq_zero (by have := q1.length; omega)
    subst hus
    have hv : ∃ A n cap, v = .slice A n cap ∧ n ≤ cap := by
     unfold aSl at hsl
     split at hsl
     ·simp only [RelV] at hx; exact ⟨_, _, _, hx, Nat.le_refl _⟩
     ·simp only [RelV] at hx; obtain ⟨a, cap, e1, e2⟩ := hx; exact ⟨_, _, _, e1, Nat.zero_le _⟩
     ·simp only [RelV] at hx; obtain ⟨A, cap, e1, e2, _⟩ := hx; exact ⟨_, _, _, e1, e2⟩
     ·simp only [RelV] at hx; obtain ⟨_, cap, e1, e2, _⟩ := hx; exact ⟨_, _, _, e1, e2⟩
     ·cases hsl
    obtain ⟨A, n, cap, rfl, hn⟩ := hv
    refine Runs.quiet hok hx ?_
    have := run_append_room' (P := P) (w := C.w) t t2 ty e i hu d2 hu2 hd2 hi A n cap #[] 0 u q4 (by omega) C.w (fun a _ => by simp [storeCells]) (fun _ => rfl)
    simpa using this
   ·cases h
  ·cases h
 ·cases h

def aAppendRef (P : Program) (t t2 : TypeId) (x y : LV) (s : List AObj) : Option (LV × List AObj) := match P.underlying t with
 | some (.slice e) => match szT P e, bytesT P e, zeroT P e with
  | some size, some by_, some z => if notInt P t2 = true ∧ z.cellsOk = true ∧ z.cells.length = size then
   match x, aCells size y s with
   | .ref sz id off n _, some (ds, m) => match s[id]? with
    | some (.cells cs) => if sz = size ∧ off = 0 ∧ n * size ≤ cs.length ∧ n + m ≤ maxLen ∧ (n + m) * by_ ≤ 140737488355328 ∧ 0 < ds.length ∧ cs ≠ [] then some (.ref size s.length 0 (n + m) false, s.set id (.cells []) ++ [.cells (cs.take (n * size) ++ ds)]) else none
    | _ => none
   | _, _ => none
   else none
  | _, _, _ => none
 | _ => none

theorem aAppendRef_sound {P : Program} {C : Ctx} {s s' : List AObj} {t t2 ty : TypeId} {x y r : LV} {v u : Value} (hok : Ok C s) (hx : RelV C x v) (hy : RelV C y u) (h : aAppendRef P t t2 x y s = some (r, s')) :
  Runs P C (Builtin.append_ #[t, t2] ty #[v, u]) r s' C.τ := by
 unfold aAppendRef at h
 split at h
 ·rename_i e hu
  split at h
  ·rename_i size by_ z hsz hby hz
   split at h
   ·rename_i hc
    obtain ⟨hc1, hc2, hc3⟩ := hc
    split at h
    ·rename_i sz id off n fl ds m hcs
     split at h
     ·rename_i cs hid
      split at h
      ·rename_i hbd
       obtain ⟨rfl, rfl, hbd0, hbd1, hbd2, hm, hdead⟩ := hbd
       simp only [Option.some.injEq, Prod.mk.injEq] at h
       obtain ⟨rfl, rfl⟩ := h
       simp only [RelV] at hx
       obtain ⟨k0, cap, rfl, k1, k2, k3, k4⟩ := hx
       obtain ⟨us, q1, q2, q3, q4⟩ := aCells_sound (P := P) hok hy hcs
       have ql := q1.length
       obtain ⟨vs, T, os, ws, p1, p2, p3, p4⟩ := hok.obj id _ hid
       have pl := p3.length
       have hidl := (List.getElem?_eq_some_iff.1 hid).1
       unfold szT at hsz; unfold bytesT at hby; unfold zeroT at hz
       simp only [Option.map_eq_some_iff, Option.bind_eq_some_iff] at hsz hby hz
       obtain ⟨i, hi, hsz⟩ := hsz
       obtain ⟨i2, hi2, hby⟩ := hby
       rw [hi] at hi2; cases hi2
       obtain ⟨zv, ⟨i3, hi3, hz1⟩, hz2⟩ := hz
       rw [hi] at hi3; cases hi3
       unfold notInt at hc1
       subst hsz
       subst hby
       cases hu2 : P.underlying t2 with
       | none => simp [hu2] at hc1
       | some d2 =>
       have hd2 : ∀ k, d2 ≠ .int k := by intro k e; subst e; simp [hu2] at hc1
       have hn : C.n = s.length := hok.n
       have hbs : bs C.w (C.ρ id) = vs.size := by unfold bs; rw [p1]
       rw [hbs] at k4
       have hvl : vs.size = os.length + ws.length := by
        have := congrArg List.length p2
        simpa using this
       have hzrel := ofVal_rel C zv z hz2
       have hzl : zv.cells.size = i.size := by have := (cellsOk_rel hc2 hzrel).1.length; simp at this; omega
       have hne : cs.take (n * i.size) ++ ds ≠ [] := by
        intro e0
        have := (List.append_eq_nil_iff.1 e0).2
        rw [this] at hm; simp at hm
       by_cases hroom : n + m ≤ cap
       ·-- in its place
        have hmul : (n + m) * i.size ≤ cap * i.size := Nat.mul_le_mul_right _ hroom
        rw [Nat.add_mul] at hmul
        have hfit : n * i.size + us.length ≤ vs.size := by omega
        have hst := run_storeCells_at (P := P) (C.ρ id) (n * i.size) T us 0 vs C.w p1 (by omega) q2
        have hlive : ¬ s[id]? = some (.cells []) → C.lim (C.ρ id) = 0 := fun hh => (hok.own id (by omega)).2.1.resolve_left hh
        ·have hnd : ¬ s[id]? = some (.cells []) := by rw [hid]; simpa using hdead
         let vs' : Array Value := (vs.toList.take (n * i.size + 0) ++ us ++ vs.toList.drop (n * i.size + 0 + us.length)).toArray
         have hvsz : vs'.size = vs.size := by simp [vs']; omega
         have hao : RelO (C.set (C.ρ id) vs') (.cells (cs.take (n * i.size) ++ ds)) (C.ρ id) := by
          have hle := C.le_set (hok.own id (by omega)).1 (hlive hnd) vs' p1 (Nat.le_of_eq hvsz.symm)
          refine ⟨vs', T, os.take (n * i.size) ++ us, vs.toList.drop (n * i.size + us.length), setRow_heap _ _ _ _ _ _ p1, ?_, ((RelVs.mono hle _ _ p3).take _).app (RelVs.mono hle _ _ q1), ?_⟩
          ·simp only [vs', Nat.add_zero]
           rw [p2, List.take_append_of_le_length (by omega)]
          ·intro u' hu'
           rcases List.mem_append.1 hu' with h' | h'
           ·exact p4 u' (List.mem_of_mem_take h')
           ·exact q2 u' h'
         have hok1 := hok.set hidl hnd (hlive hnd) vs' p1 (Nat.le_of_eq hvsz.symm) _ hao
         have hle1 := C.le_set (hok.own id (by omega)).1 (hlive hnd) vs' p1 (Nat.le_of_eq hvsz.symm)
         have hs1 : (s.set id (.cells (cs.take (n * i.size) ++ ds)))[id]? = some (.cells (cs.take (n * i.size) ++ ds)) := List.getElem?_set_self hidl
         have hok2 := hok1.dup hs1 hne
         rw [List.set_set] at hok2
         refine ⟨(C.set (C.ρ id) vs').dup id, .slice (some ⟨C.ρ id, 0, none⟩) (n + m) cap, hle1.trans (Ctx.le_dup _ id), hok2, rfl, ?_, ?_⟩
         ·simp only [RelV]
          refine ⟨by simp [Ctx.dup, Ctx.set, hn], cap, ?_, hroom, k2, by simp, ?_⟩
          ·simp [Ctx.dup, Ctx.set, hn]
          ·have e1 : ((C.set (C.ρ id) vs').dup id).ρ s.length = C.ρ id := by simp [Ctx.dup, Ctx.set, hn]
           have e2 : ((C.set (C.ρ id) vs').dup id).w.heap[C.ρ id]? = some (.cells vs' T (0, 0)) := setRow_heap _ _ _ _ _ _ p1
           rw [e1]; unfold bs; rw [e2]; simp only [hvsz]; omega
         ·exact run_append_room' (P := P) (w := C.w) t t2 ty e i hu d2 hu2 hd2 hi (some ⟨C.ρ id, 0, none⟩) n cap us.toArray m u q4 hroom (C.w.setRow (C.ρ id) vs')
           (fun a ha => by cases ha; rw [add_plain, Nat.zero_add]; exact hst) (fun h => by cases h)
       ·-- in a new block
        have hhead : RelV C (.ref i.size id 0 n fl) (.slice (some ⟨C.ρ id, 0, none⟩) n cap) := by
         simp only [RelV]; exact ⟨k0, cap, rfl, k1, k2, k3, by rw [hbs]; exact k4⟩
        obtain ⟨os2, r1, r2, r3, r4⟩ := aCells_sound (P := P) (size := i.size) (cs := cs.take (n * i.size)) (n := n) hok hhead (by simp [aCells, hid, hbd0])
        have hrun := run_append_grows' (P := P) (w := C.w) t t2 ty e i zv hu d2 hu2 hd2 hi hz1 (some ⟨C.ρ id, 0, none⟩) n cap os2.toArray us.toArray m u (fun w' hw => (r4 w' hw).2) q4 (by omega) hbd1 hbd2
        have hge := grownCap_ge C.w (n + m) cap e
        have hle2 := grownCap_le_maxLen C.w (n + m) cap e hbd1
        generalize grownCap C.w (n + m) cap e = gc at *
        let vs2 : Array Value := os2.toArray ++ us.toArray ++ Builtin.zeroCells zv.cells (gc - (n + m))
        have hok1 := hok.kill hid
        have hok2 := hok1.drew
        have hle := C.le_drew.trans (hok2.le_push (.cells vs2 e))
        refine ⟨C.drew.push (.cells vs2 e), _, hle, hok2.push _ (.cells (cs.take (n * i.size) ++ ds)) ?_, rfl, ?_, hrun⟩
        ·refine ⟨vs2, e, os2 ++ us, (Builtin.zeroCells zv.cells (gc - (n + m))).toList, heap_new _ _, by simp [vs2], (RelVs.mono hle _ _ r1).app (RelVs.mono hle _ _ q1), ?_⟩
         intro u' hu'
         rcases List.mem_append.1 hu' with h' | h'
         ·exact r2 u' h'
         ·exact q2 u' h'
        ·simp only [RelV]
         refine ⟨by simp [Ctx.push, Ctx.drew, hn], gc, ?_, hge, hle2, by simp, ?_⟩
         ·simp [Ctx.push, Ctx.drew, hn]
         ·have e1 : (C.drew.push (.cells vs2 e)).ρ s.length = C.w.heap.size := by simp [Ctx.push, Ctx.drew, hn]
          have e2 : (C.drew.push (.cells vs2 e)).w.heap[C.w.heap.size]? = some (.cells vs2 e) := heap_new C.drew.w _
          have e3 : n + m + (gc - (n + m)) = gc := by omega
          have e4 : vs2.size = gc * i.size := by
           have e5 := congrArg (· * i.size) e3
           simp only [Nat.add_mul] at e5
           simp [vs2, size_zero', hzl]
           omega
          rw [e1]; unfold bs; rw [e2]; simp only [e4]; simp
      ·cases h
     ·cases h
    ·cases h
   ·cases h
  ·cases h
 ·cases h

def aAppendOwn (P : Program) (t t2 : TypeId) (x y : LV) (s : List AObj) : Option (LV × List AObj) :=
 if aAppendNil P t t2 x y s = true then some (x, s) else match x with
  | .ref .. => aAppendRef P t t2 x y s
  | _ => aAppendNew P t t2 x y s

theorem aAppendOwn_sound {P : Program} {C : Ctx} {s s' : List AObj} {t t2 ty : TypeId} {x y r : LV} {v u : Value} (hok : Ok C s) (hx : RelV C x v) (hy : RelV C y u) (h : aAppendOwn P t t2 x y s = some (r, s')) :
  Runs P C (Builtin.append_ #[t, t2] ty #[v, u]) r s' C.τ := by
 unfold aAppendOwn at h
 split at h
 ·rename_i hn
  simp only [Option.some.injEq, Prod.mk.injEq] at h
  obtain ⟨rfl, rfl⟩ := h
  exact aAppendNil_sound hok hx hy hn
 ·split at h
  ·exact aAppendRef_sound hok hx hy h
  ·exact aAppendNew_sound hok hx hy h

def isWide (P : Program) (t : TypeId) : Bool := match P.underlying t with
 | some (.slice e) => (match szT P e with | some n => n == 5 | none => false)
 | _ => false
def aopO (P : Program) (own : Bool) (o : Op) (st : St) : Option (LV × List AObj × List Nat) := match own, o with
 | true, .call c => (match c.callee, c.argTypes.toList, c.args.toList.map (aev st.t) with
  | .builtin .append, [t, t2], [x, y] => (aAppendOwn P t t2 x y st.s).map fun (r, s) => (r, s, st.v)
  | _, _, _ => aop P o st)
 | true, .buildSlice t len parts => if isWide P t = true then (aBuildObj P t len (parts.toList.map fun p => (p.1, aev st.t p.2)) st.s).map fun (x, s) => (x, s, st.v) else aop P o st
 | _, _ => aop P o st

theorem aopO_sound {P : Program} {own : Bool} {C : Ctx} {st : St} {o : Oper} {a : Act} {x : LV} {s : List AObj} {v : List Nat} (hok : Ok C st.s) (hv : C.τ = st.v) (hT : RelT C st.t a.tmps) (h : aopO P own o.op st = some (x, s, v)) : Done P C o a x s v := by
 unfold aopO at h
 split at h
 ·rename_i c ho
  split at h
  ·rename_i t t2 y z hc e1 e2
   have hargs := relVs_map hT c.args.toList
   rw [e2] at hargs
   obtain ⟨u, r, e3, h1, w, r', e4, h2, h3⟩ := hargs
   simp only [RelVs] at h3
   subst h3; subst e4
   have e5 : c.args.map a.eval = #[u, w] := by apply Array.ext'; simpa using e3
   have e6 : c.argTypes = #[t, t2] := by apply Array.ext'; simpa using e1
   simp only [Option.map_eq_some_iff] at h
   obtain ⟨⟨r, s'⟩, k1, k2⟩ := h
   simp only [Prod.mk.injEq] at k2; obtain ⟨rfl, rfl, rfl⟩ := k2
   rw [← hv]
   exact (aAppendOwn_sound (ty := o.type) hok h1 h2 k1).done (by simp [execOp, ho, resolve, invoke, builtin, hc, e5, e6])
  ·exact aop_sound hok hv hT h
 ·rename_i t len parts ho
  split at h
  ·simp only [Option.map_eq_some_iff] at h
   obtain ⟨⟨r, s'⟩, k1, k2⟩ := h
   simp only [Prod.mk.injEq] at k2; obtain ⟨rfl, rfl, rfl⟩ := k2
   rw [← hv]
   refine (aBuildObj_sound (pv := parts.map fun p => (p.1, a.eval p.2)) hok (by simp [List.map_map]) ?_ k1).done (by simp [execOp, ho])
   have := relVs_map hT (parts.toList.map (·.2))
   rw [List.map_map, List.map_map] at this
   rw [Array.toList_map, List.map_map, List.map_map]
   exact this
  ·exact aop_sound hok hv hT h
 ·exact aop_sound hok hv hT h
end Go.Hb
