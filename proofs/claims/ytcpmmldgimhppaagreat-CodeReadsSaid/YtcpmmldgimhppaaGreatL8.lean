/-
  A layer for reasoning about the program's calls, and contracts of its functions (L8). CONDITIONS: none; each theorem bears its own.
-/
import Derived.Test.YtcpmmldgimhppaaGreatL7
import Derived.Test.YtcpmmldgimhppaaGreatL5
import Derived.Shelf.Sort.Plain
set_option linter.unusedVariables false
set_option linter.unusedSimpArgs false
section
namespace Go.Hb
open Go
/-! programs, as plain data -/
structure Ins where
  op : Int
  a : Int
structure Fn_ where
  locals : Int
  code : List Ins
structure Prog where
  funcs : List Fn_
  mutexes : Int
  conds : List Int
  semas : List Int
  chans : List Int
  choices : List (List Int)
  threads : Int
def Ins.lv (i : Ins) : List LV := [.int .i64 i.op, .int .i64 i.a]
instance : Enc Ins := ⟨2, Ins.lv, ⟨0, 0⟩, fun _ => rfl, fun _ _ => rfl⟩
@[simp] theorem sz_ins : Enc.sz Ins = 2 := rfl
@[simp] theorem enc_ins (i : Ins) : Enc.enc i = [.int .i64 i.op, .int .i64 i.a] := rfl
def Fn_.lv (f : Fn_) : List LV := [.int .i64 f.locals, row f.code]
instance : Enc Fn_ := ⟨2, Fn_.lv, ⟨0, []⟩, fun _ => rfl, fun f n => by simp [Fn_.lv, undersB, LV.under]⟩
@[simp] theorem sz_fn : Enc.sz Fn_ = 2 := rfl
@[simp] theorem enc_fn (f : Fn_) : Enc.enc f = [.int .i64 f.locals, row f.code] := rfl
def Prog.lv (p : Prog) : List LV := [row p.funcs, .int .i64 p.mutexes, row p.conds, row p.semas, row p.chans, row p.choices, .int .i64 p.threads]
instance : Enc Prog := ⟨7, Prog.lv, ⟨[], 0, [], [], [], [], 0⟩, fun _ => rfl, fun f n => by simp [Prog.lv, undersB, LV.under]⟩
instance : DecidableEq Ins := fun a b => decidable_of_iff (a.op = b.op ∧ a.a = b.a) ⟨fun ⟨h, k⟩ => by cases a; cases b; simp_all, fun h => by subst h; exact ⟨rfl, rfl⟩⟩
instance : DecidableEq Fn_ := fun a b => decidable_of_iff (a.locals = b.locals ∧ a.code = b.code) ⟨fun ⟨h, k⟩ => by cases a; cases b; simp_all, fun h => by subst h; exact ⟨rfl, rfl⟩⟩

/-! the document's layer 3 -/
def around (n m : Int) : Int := (if n < 0 then -(n + 1) else n) % m
theorem around_in {n m : Int} (hm : 0 < m) : 0 ≤ around n m ∧ around n m < m := ⟨Int.emod_nonneg _ (by omega), Int.emod_lt_of_pos _ hm⟩
def asks (op : Int) : Bool := decide (op = 0) || (decide (5 ≤ op) && decide (op ≤ 9)) || decide (op = 11) || (decide (15 ≤ op) && decide (op ≤ 24))
def mostL (fs mu co se ch cho lo cl op : Int) : Int :=
  if op = 0 then 1073741825 else if op = 5 ∨ op = 6 then lo else if op = 7 ∨ op = 8 then cl + 1 else if op = 9 ∨ op = 11 then fs
  else if op = 15 ∨ op = 16 then mu else if op = 17 ∨ op = 18 ∨ op = 19 then co else if op = 20 ∨ op = 21 then se
  else if op = 22 ∨ op = 23 then ch else if op = 24 then cho else 0
def most (p : Prog) (f : Fn_) (op : Int) : Int := mostL p.funcs.length p.mutexes p.conds.length p.semas.length p.chans.length p.choices.length f.locals f.code.length op
def mayI (p : Prog) (f : Fn_) (i : Ins) : Bool :=
  decide (0 ≤ i.op) && decide (i.op ≤ 26) && (if asks i.op = true then (if i.op = 0 ∧ i.a < 0 then decide (-1073741824 ≤ i.a) else decide (0 ≤ i.a) && decide (i.a < most p f i.op)) else decide (i.a = 0))
def allTo (l : List Int) (to : Int) : Bool := l.all fun x => decide (0 ≤ x) && decide (x ≤ to)
def mayCh (p : Prog) (l : List Int) : Bool := allTo l (p.chans.length - 1) && decide l.Nodup && decide (1 ≤ l.length) && decide (l.length ≤ 8)
def mayF (p : Prog) (f : Fn_) : Bool := decide (0 ≤ f.locals) && decide (f.locals ≤ 8) && decide (f.code.length ≤ 64) && f.code.all (mayI p f)
def mayP (p : Prog) : Bool :=
  decide (1 ≤ p.funcs.length) && decide (p.funcs.length ≤ 16) && decide (0 ≤ p.mutexes) && decide (p.mutexes ≤ 8) && decide (p.conds.length ≤ 8) && decide (p.semas.length ≤ 8) && decide (p.chans.length ≤ 8) && decide (p.choices.length ≤ 8)
  && decide (1 ≤ p.threads) && decide (p.threads ≤ 32) && allTo p.conds (p.mutexes - 1) && allTo p.semas 100 && allTo p.chans 8 && p.choices.all (mayCh p) && p.funcs.all (mayF p)
def things (l : List Int) (to : Int) : List Int := if to < 0 then [] else (l.take 4).map fun x => around x (to + 1)
def instrOf (p : Prog) (f : Fn_) (i : Ins) : Ins :=
  let op := around i.op 27
  if asks op = false then ⟨op, 0⟩ else if most p f op = 0 then ⟨12, 0⟩ else if op = 0 then ⟨0, i.a.tmod 1000⟩ else ⟨op, around i.a (most p f op)⟩
theorem take_succ_nth {α : Type} [Enc α] {l : List α} {k : Nat} (h : k < l.length) : l.take (k + 1) = l.take k ++ [nth l k] := by
  rw [List.take_add_one, List.getElem?_eq_getElem h, nth_eq h]; rfl
theorem drop_nth {α : Type} [Enc α] {l : List α} {k : Nat} (h : k < l.length) : l.drop k = nth l k :: l.drop (k + 1) := by
  rw [List.drop_eq_getElem_cons h, nth_eq h]
def ddStep (acc : List Int) (x : Int) : List Int := if acc.any (fun y => decide (y = x)) = true then acc else acc ++ [x]
def dd (l : List Int) : List Int := l.foldl ddStep []
theorem dd_succ {l : List Int} {j : Nat} (h : j < l.length) : dd (l.take (j + 1)) = ddStep (dd (l.take j)) (nth l j) := by
  unfold dd; rw [take_succ_nth h, List.foldl_append]; rfl
theorem foldl_dd_len : ∀ (l acc : List Int), (l.foldl ddStep acc).length ≤ acc.length + l.length
  | [], acc => by simp
  | x :: l, acc => by
    have h := foldl_dd_len l (ddStep acc x)
    have : (ddStep acc x).length ≤ acc.length + 1 := by unfold ddStep; split <;> simp
    simp only [List.foldl_cons, List.length_cons]; omega
theorem dd_len (l : List Int) : (dd l).length ≤ l.length := by have := foldl_dd_len l []; simpa [dd] using this
theorem things_len (l : List Int) (to : Int) : (things l to).length ≤ 4 := by unfold things; split <;> simp; omega
theorem around_I64 {n m : Int} (hm : 0 < m) (hm2 : m ≤ 4611686018427387904) : I64 (around n m) := by have := around_in (n := n) hm; constructor <;> omega
theorem things_in {l : List Int} {to x : Int} (h : x ∈ things l to) : 0 ≤ x ∧ x ≤ to := by
  unfold things at h
  split at h
  · cases h
  · obtain ⟨y, _, rfl⟩ := List.mem_map.1 h
    have := around_in (n := y) (m := to + 1) (by omega)
    omega
def goodCh (nch : Nat) (l : List Int) : List Int := dd (things l (nch - 1))
def goodChs (nch : Nat) (L : List (List Int)) : List (List Int) := (L.map (goodCh nch)).filter fun l => decide (0 < l.length)
def goodF (f : Fn_) : Fn_ := ⟨around f.locals 4, f.code.take 24⟩
def goodFs (L : List Fn_) : List Fn_ := if L.length = 0 then [⟨0, []⟩] else (L.take 4).map goodF
def good0 (p : Prog) : Prog :=
  ⟨goodFs p.funcs, around p.mutexes 4, things p.conds (around p.mutexes 4 - 1), things p.semas 3, things p.chans 3, goodChs (things p.chans 3).length (p.choices.take 4), 1 + around p.threads 8⟩
def good (p : Prog) : Prog := { good0 p with funcs := (good0 p).funcs.map fun f => ⟨f.locals, f.code.map (instrOf (good0 p) f)⟩ }
end Go.Hb
end

section
namespace Go.Hb
open Go

/-! ### rows of a call's own that grow (an append makes an object) -/
/-- x is a row of n elements, its cells cs; if there are any, they lie in the object id. -/
def RowR (S : List AObj) (sz n : Nat) (cs : List LV) (x : LV) (id : Nat) : Prop := (n = 0 ∧ cs = [] ∧ x = .nils) ∨ (n ≠ 0 ∧ cs ≠ [] ∧ x = .ref sz id 0 n false ∧ S[id]? = some (.cells cs) ∧ cs.length = n * sz)
theorem RowR.nil (S : List AObj) (sz id : Nat) : RowR S sz 0 [] .nils id := .inl ⟨rfl, rfl, rfl⟩
theorem own_app {P : Program} {t t2 : TypeId} {sz by_ : Nat} (hok : appOk P t t2 sz by_ = true) (hsz : 0 < sz) (hby : by_ ≤ 1000) {S : List AObj} {n id : Nat} {cs ds : List LV} {x : LV} (h : RowR S sz n cs x id) (hd : ds.length = sz) (b : n + 1 ≤ 100000000) :
    ∀ r, aAppendOwn P t t2 x (.imm sz 1 ds r) S = some (.ref sz S.length 0 (n + 1) false, (if n = 0 then S else S.set id (.cells [])) ++ [.cells (cs ++ ds)]) := by
  intro r
  have hm : (n + 1) * by_ ≤ 100000000 * 1000 := Nat.mul_le_mul b hby
  have hml : n + 1 ≤ maxLen := by unfold maxLen; omega
  unfold appOk at hok
  split at hok
  rotate_left
  · cases hok
  rename_i e hu
  simp only [Bool.and_eq_true] at hok
  obtain ⟨⟨⟨hs, hb⟩, hn⟩, hz⟩ := hok
  cases hs' : szT P e with
  | none => rw [hs'] at hs; cases hs
  | some s' =>
  rw [hs'] at hs; simp at hs; subst hs
  cases hb' : bytesT P e with
  | none => rw [hb'] at hb; cases hb
  | some b' =>
  rw [hb'] at hb; simp at hb; subst hb
  cases hz' : zeroT P e with
  | none => rw [hz'] at hz; cases hz
  | some z =>
  rw [hz'] at hz; simp only [Bool.and_eq_true, beq_iff_eq] at hz
  have hy : aCells s' (.imm s' 1 ds r) S = some (ds, 1) := by simp [aCells]
  have hnil : aAppendNil P t t2 x (.imm s' 1 ds r) S = false := by
    unfold aAppendNil
    simp only [hu, hs', hy]
    simp
  have hds : 0 < ds.length := by omega
  unfold aAppendOwn
  rw [if_neg (by rw [hnil]; simp)]
  rcases h with ⟨rfl, rfl, rfl⟩ | ⟨h1, h1c, rfl, h2, h3⟩
  · simp only [if_true]
    unfold aAppendNew
    simp only [hu, hs', hb', hz', hy]
    rw [if_pos ⟨hn, hz.1, hz.2⟩]
    simp only [aHead]
    rw [if_pos ⟨by omega, by omega, by omega⟩]
  · rw [if_neg h1]
    unfold aAppendRef
    simp only [hu, hs', hb', hz', hy, h2]
    rw [if_pos ⟨hn, hz.1, hz.2⟩]
    have htk : cs.take (n * s') = cs := List.take_of_length_le (by omega)
    rw [if_pos ⟨by trivial, by trivial, by omega, hml, by omega, hds, h1c⟩, htk]

/-- Functions, as they lie in cells, their code in objects of their own. -/
def FunsV (S : List AObj) : List Fn_ → List Nat → List LV → Prop
  | [], [], r => r = []
  | f :: fs, id :: ids, r => ∃ x r', r = .int .i64 f.locals :: x :: r' ∧ RowR S 2 f.code.length (rowCs f.code) x id ∧ FunsV S fs ids r'
  | _, _, _ => False
theorem RowR.keep {S S' : List AObj} {sz n id : Nat} {cs : List LV} {x : LV} (h : RowR S sz n cs x id) (hk : n ≠ 0 → S'[id]? = S[id]?) : RowR S' sz n cs x id := by
  rcases h with h | ⟨h1, h2, h3, h4, h5⟩
  · exact .inl h
  · exact .inr ⟨h1, h2, h3, (hk h1).trans h4, h5⟩
theorem FunsV.keep {S S' : List AObj} : ∀ {fs : List Fn_} {ids : List Nat} {r : List LV}, FunsV S fs ids r → (∀ id ∈ ids, S'[id]? = S[id]?) → FunsV S' fs ids r
  | [], [], _, h, _ => h
  | [], _ :: _, _, h, _ => h.elim
  | _ :: _, [], _, h, _ => h.elim
  | f :: fs, id :: ids, r, h, hk => by
    obtain ⟨x, r', rfl, h1, h2⟩ := h
    exact ⟨x, r', rfl, h1.keep fun _ => hk id (by simp), h2.keep fun i hi => hk i (by simp [hi])⟩
theorem FunsV.snoc {S : List AObj} {f : Fn_} {id : Nat} {x : LV} (hf : RowR S 2 f.code.length (rowCs f.code) x id) : ∀ {fs : List Fn_} {ids : List Nat} {r : List LV}, FunsV S fs ids r → FunsV S (fs ++ [f]) (ids ++ [id]) (r ++ [.int .i64 f.locals, x])
  | [], [], r, h => by simp only [FunsV] at h; subst h; exact ⟨x, [], rfl, hf, rfl⟩
  | [], _ :: _, _, h => h.elim
  | _ :: _, [], _, h => h.elim
  | g :: fs, i :: ids, r, h => by
    obtain ⟨y, r', rfl, h1, h2⟩ := h
    exact ⟨y, _, rfl, h1, FunsV.snoc hf h2⟩
theorem FunsV.len {S : List AObj} : ∀ {fs : List Fn_} {ids : List Nat} {r : List LV}, FunsV S fs ids r → r.length = fs.length * 2 ∧ ids.length = fs.length
  | [], [], _, h => by simp only [FunsV] at h; subst h; exact ⟨rfl, rfl⟩
  | [], _ :: _, _, h => h.elim
  | _ :: _, [], _, h => h.elim
  | f :: fs, id :: ids, r, h => by
    obtain ⟨x, r', rfl, h1, h2⟩ := h
    have := FunsV.len h2
    simp; omega
/-- The i-th function's cells. -/
theorem FunsV.get {S : List AObj} : ∀ {fs : List Fn_} {ids : List Nat} {r : List LV} (i : Nat), FunsV S fs ids r → i < fs.length →
    ∃ x id, ids[i]? = some id ∧ (r.drop (i * 2)).take 2 = [.int .i64 (nth fs i).locals, x] ∧ RowR S 2 (nth fs i).code.length (rowCs (nth fs i).code) x id
  | [], _, _, _, _, hi => by simp at hi
  | f :: fs, [], _, _, h, _ => h.elim
  | f :: fs, id :: ids, r, 0, h, _ => by
    obtain ⟨x, r', rfl, h1, h2⟩ := h
    exact ⟨x, id, rfl, rfl, h1⟩
  | f :: fs, id :: ids, r, i + 1, h, hi => by
    obtain ⟨x, r', rfl, h1, h2⟩ := h
    obtain ⟨y, id', q1, q2, q3⟩ := FunsV.get i h2 (by simpa using hi)
    have hn : nth (f :: fs) (i + 1) = nth fs i := by simp [nth]
    rw [hn]
    exact ⟨y, id', by simpa using q1, by simpa [Nat.add_mul] using q2, q3⟩
/-- The i-th function's code is another one. -/
theorem FunsV.put {S S' : List AObj} {c : List Ins} : ∀ {fs : List Fn_} {ids : List Nat} {r : List LV} (i : Nat) (id : Nat), FunsV S fs ids r → ids[i]? = some id → ids.Nodup → (∀ j ∈ ids, j ≠ id → S'[j]? = S[j]?) → c.length = (nth fs i).code.length → (c ≠ [] → S'[id]? = some (.cells (rowCs c))) →
    FunsV S' (fs.set i ⟨(nth fs i).locals, c⟩) ids r
  | [], [], _, i, id, h, hi, _, _, _, _ => by simp at hi
  | [], _ :: _, _, _, _, h, _, _, _, _, _ => h.elim
  | _ :: _, [], _, _, _, h, _, _, _, _, _ => h.elim
  | f :: fs, j :: ids, r, 0, id, h, hi, hnd, hk, hc, hid => by
    obtain ⟨x, r', rfl, h1, h2⟩ := h
    simp at hi; subst hi
    have hn : nth (f :: fs) 0 = f := rfl
    rw [hn] at hc
    refine ⟨x, r', rfl, ?_, h2.keep fun i hi => hk i (by simp [hi]) (by rintro rfl; simp at hnd; exact hnd.1 hi)⟩
    show RowR S' 2 c.length (rowCs c) x j
    rcases h1 with ⟨h1, h2, h3⟩ | ⟨h1, h2, h3, h4, h5⟩
    · have : c = [] := List.length_eq_zero_iff.1 (by omega)
      subst this
      exact .inl ⟨rfl, rfl, h3⟩
    · have hne : c ≠ [] := by intro e; subst e; simp at hc; omega
      refine .inr ⟨by rw [hc]; exact h1, ?_, by rw [hc]; exact h3, hid hne, rowCs_len c⟩
      intro e
      have := rowCs_len c
      rw [e, sz_ins, List.length_nil] at this
      exact hne (List.length_eq_zero_iff.1 (by omega))
  | f :: fs, j :: ids, r, i + 1, id, h, hi, hnd, hk, hc, hid => by
    obtain ⟨x, r', rfl, h1, h2⟩ := h
    have hn : nth (f :: fs) (i + 1) = nth fs i := by simp [nth]
    simp only [List.nodup_cons] at hnd
    have hi' : ids[i]? = some id := by simpa using hi
    have hne : j ≠ id := by rintro rfl; exact hnd.1 (List.mem_of_getElem? hi')
    have := FunsV.put (S' := S') (c := c) i id h2 hi' hnd.2 (fun k hk' => hk k (by simp [hk'])) (by rw [hn] at hc; exact hc) hid
    refine ⟨x, r', rfl, h1.keep fun _ => hk j (by simp) hne, ?_⟩
    rw [hn]; exact this
/-- All that lies there is a value in the end. -/
theorem FunsV.deep {S : List AObj} {n : Nat} : ∀ {fs : List Fn_} {ids : List Nat} {r : List LV}, FunsV S fs ids r → (∀ id ∈ ids, n ≤ id) → DeepVs S n r (rowCs fs)
  | [], [], _, h, _ => by simp only [FunsV] at h; subst h; exact .nil
  | [], _ :: _, _, h, _ => h.elim
  | _ :: _, [], _, h, _ => h.elim
  | f :: fs, id :: ids, r, h, hn => by
    obtain ⟨x, r', rfl, h1, h2⟩ := h
    rw [rowCs_cons]
    refine .cons _ _ _ _ (.keep _ (by simp)) (.cons _ _ _ _ ?_ (FunsV.deep h2 fun i hi => hn i (by simp [hi])))
    rcases h1 with ⟨q1, q2, rfl⟩ | ⟨q1, q2, rfl, q4, q5⟩
    · have : f.code = [] := List.length_eq_zero_iff.1 q1
      rw [this]
      exact .weak _ _ _ (.keep _ rfl) Weak.nilrow
    · refine .weak _ _ _ (.ref 2 id 0 f.code.length false (rowCs f.code) (rowCs f.code) (hn id (by simp)) q4 q2 (by omega) ?_) (Weak.refl _)
      have : (List.take (f.code.length * 2) (List.drop 0 (rowCs f.code))) = rowCs f.code := by rw [List.drop_zero, List.take_of_length_le (by omega)]
      rw [this]
      exact keepAll _ (rowCs_und n f.code)
where
  keepAll {S : List AObj} {n : Nat} : ∀ (l : List LV), undersB n l = true → DeepVs S n l l
  | [], _ => .nil
  | x :: xs, h => by
    simp only [undersB, Bool.and_eq_true] at h
    exact .cons _ _ _ _ (.keep _ h.1) (keepAll xs h.2)
end Go.Hb
namespace Go.Hb
/-! where things lie behind three objects -/
theorem lay_len (s J : List AObj) (a b c : AObj) : (s ++ (a :: b :: c :: J)).length = s.length + (J.length + 3) := by simp
theorem lay_get (s J : List AObj) (a b c : AObj) (d : Nat) : (s ++ (a :: b :: c :: J))[s.length + (d + 3)]? = J[d]? := by rw [get_app]; simp
theorem lay_set (s J : List AObj) (a b c o : AObj) (d : Nat) : (s ++ (a :: b :: c :: J)).set (s.length + (d + 3)) o = s ++ (a :: b :: c :: J.set d o) := by rw [set_app]; simp
theorem lay_old {s J J' : List AObj} {a b c a' b' c' : AObj} {id : Nat} (h : s.length + 3 ≤ id) (hj : J'[id - (s.length + 3)]? = J[id - (s.length + 3)]?) : (s ++ (a' :: b' :: c' :: J'))[id]? = (s ++ (a :: b :: c :: J))[id]? := by
  obtain ⟨d, rfl⟩ : ∃ d, id = s.length + (d + 3) := ⟨id - (s.length + 3), by omega⟩
  rw [lay_get, lay_get]
  rwa [show s.length + (d + 3) - (s.length + 3) = d by omega] at hj
end Go.Hb
namespace Go.Hb
open Go
theorem lay2_get (J D : List AObj) (F : AObj) (d : Nat) : (J ++ F :: D)[J.length + 1 + d]? = D[d]? := by
  rw [List.getElem?_append_right (by omega), show J.length + 1 + d - J.length = d + 1 by omega, List.getElem?_cons_succ]
theorem lay2_set (J D : List AObj) (F o : AObj) (d : Nat) : (J ++ F :: D).set (J.length + 1 + d) o = J ++ F :: D.set d o := by
  rw [List.set_append_right _ _ (by omega), show J.length + 1 + d - J.length = d + 1 by omega, List.set_cons_succ]
def dead : AObj := .cells []
/-- The row of a function's code grows by one. -/
theorem code_step {P : Program} {t t2 : TypeId} (hok : appOk P t t2 2 16 = true) {s J D : List AObj} {a b c : AObj} {lo : LV} {x : LV} {d j : Nat} {code : List Ins}
    (hr1 : RowR (s ++ (a :: b :: c :: (J ++ .cells [lo, x] :: D))) 2 j (rowCs (code.take j)) x (s.length + (J.length + 1 + d + 3))) (hr2 : j ≠ 0 → d < D.length) (hjl : j < code.length) (hj : j < 24) :
    ∃ D', D.length < D'.length ∧ (∀ r, aAppendOwn P t t2 x (.imm 2 1 [.int .i64 (nth code j).op, .int .i64 (nth code j).a] r) (s ++ (a :: b :: c :: (J ++ .cells [lo, x] :: D))) = some (.ref 2 (s.length + (J.length + 1 + D.length + 3)) 0 (j + 1) false, s ++ (a :: b :: c :: (J ++ .cells [lo, x] :: D')))) ∧
      ∀ F, RowR (s ++ (a :: b :: c :: (J ++ F :: D'))) 2 (j + 1) (rowCs (code.take (j + 1))) (.ref 2 (s.length + (J.length + 1 + D.length + 3)) 0 (j + 1) false) (s.length + (J.length + 1 + D.length + 3)) := by
  have ha := own_app (P := P) (t := t) (t2 := t2) (by_ := 16) (ds := [.int .i64 (nth code j).op, .int .i64 (nth code j).a]) hok (by omega) (by omega) hr1 (by simp) (by omega)
  have hcs : rowCs (code.take j) ++ [.int .i64 (nth code j).op, .int .i64 (nth code j).a] = rowCs (code.take (j + 1)) := by
    rw [take_succ_nth hjl, rowCs_app, rowCs_cons]; simp
  have hD : ∃ D1 : List AObj, D1.length = D.length ∧ (if j = 0 then s ++ (a :: b :: c :: (J ++ .cells [lo, x] :: D)) else (s ++ (a :: b :: c :: (J ++ .cells [lo, x] :: D))).set (s.length + (J.length + 1 + d + 3)) (.cells [])) = s ++ (a :: b :: c :: (J ++ .cells [lo, x] :: D1)) := by
    by_cases h0 : j = 0
    · exact ⟨D, rfl, if_pos h0⟩
    · refine ⟨D.set d (.cells []), by simp, ?_⟩
      rw [if_neg h0, lay_set, lay2_set]
  obtain ⟨D1, hl, hD1⟩ := hD
  refine ⟨D1 ++ [.cells (rowCs (code.take (j + 1)))], by simp [hl], fun r => ?_, fun F => .inr ⟨by omega, ?_, rfl, ?_, ?_⟩⟩
  · rw [ha r, hD1, hcs]
    have e1 : (s ++ (a :: b :: c :: (J ++ .cells [lo, x] :: D))).length = s.length + (J.length + 1 + D.length + 3) := by simp; omega
    rw [e1]
    simp
  · rw [take_succ_nth hjl, rowCs_app, rowCs_cons]; simp
  · rw [lay_get, lay2_get, ← hl]; simp
  · rw [rowCs_len, List.length_take, sz_ins, Nat.min_eq_left (by omega)]
/-- The row of the functions grows by one. -/
theorem funs_step {P : Program} {t t2 : TypeId} (hok : appOk P t t2 2 32 = true) {s J D : List AObj} {a b c : AObj} {lo : Int} {x xF : LV} {d dF k : Nat} {code : List Ins} {fs : List Fn_} {ids : List Nat} {fcs : List LV}
    (hf1 : FunsV (s ++ (a :: b :: c :: J)) fs ids fcs) (hf2 : RowR (s ++ (a :: b :: c :: J)) 2 k fcs xF (s.length + (dF + 3))) (hf3 : ids.Nodup) (hf4 : ∀ id ∈ ids, s.length + 3 ≤ id ∧ id < s.length + (J.length + 3) ∧ (k ≠ 0 → id ≠ s.length + (dF + 3)))
    (hr1 : RowR (s ++ (a :: b :: c :: (J ++ .cells [.int .i64 lo, x] :: D))) 2 code.length (rowCs code) x (s.length + (J.length + 1 + d + 3))) (hr2 : code.length ≠ 0 → d < D.length) (hk : k < 4) (hdF : k ≠ 0 → dF < J.length) :
    ∃ J' ids', (∀ r, aAppendOwn P t t2 xF (.imm 2 1 [.int .i64 lo, x] r) (s ++ (a :: b :: c :: (J ++ .cells [.int .i64 lo, x] :: D))) = some (.ref 2 (s.length + (J.length + 1 + D.length + 3)) 0 (k + 1) false, s ++ (a :: b :: c :: J'))) ∧
      (∀ a b c, FunsV (s ++ (a :: b :: c :: J')) (fs ++ [⟨lo, code⟩]) ids' (fcs ++ [.int .i64 lo, x])) ∧ (∀ a b c, RowR (s ++ (a :: b :: c :: J')) 2 (k + 1) (fcs ++ [.int .i64 lo, x]) (.ref 2 (s.length + (J.length + 1 + D.length + 3)) 0 (k + 1) false) (s.length + (J.length + 1 + D.length + 3))) ∧
      ids'.Nodup ∧ (∀ id ∈ ids', s.length + 3 ≤ id ∧ id < s.length + (J'.length + 3) ∧ id ≠ s.length + (J.length + 1 + D.length + 3)) ∧ J.length + 1 + D.length < J'.length := by
  obtain ⟨di, hdi1, hdi2, hrow⟩ : ∃ di, J.length ≤ di ∧ di < J.length + 1 + D.length ∧ ∀ a b c J', (∀ i, J.length < i → i < J.length + 1 + D.length → J'[i]? = (J ++ AObj.cells [.int .i64 lo, x] :: D)[i]?) → RowR (s ++ (a :: b :: c :: J')) 2 code.length (rowCs code) x (s.length + (di + 3)) := by
    by_cases h0 : code.length = 0
    · refine ⟨J.length, Nat.le_refl _, by omega, fun _ _ _ _ _ => ?_⟩
      rcases hr1 with h | h
      · exact .inl h
      · exact absurd h0 h.1
    · have hd := hr2 h0
      exact ⟨J.length + 1 + d, by omega, by omega, fun a' b' c' J' hJ => hr1.keep fun _ => by rw [lay_get, lay_get]; exact hJ _ (by omega) (by omega)⟩
  have hget : ∀ i, i < J.length → (J ++ AObj.cells [.int .i64 lo, x] :: D)[i]? = J[i]? := fun i hi => List.getElem?_append_left hi
  have hf2' : RowR (s ++ (a :: b :: c :: (J ++ .cells [.int .i64 lo, x] :: D))) 2 k fcs xF (s.length + (dF + 3)) := hf2.keep fun h0 => by rw [lay_get, lay_get, hget _ (hdF h0)]
  have ha := own_app (P := P) (t := t) (t2 := t2) (by_ := 32) (ds := [.int .i64 lo, x]) hok (by omega) (by omega) hf2' (by simp) (by omega)
  obtain ⟨J1, hl, hJ1, hold⟩ : ∃ J1 : List AObj, J1.length = J.length ∧ (if k = 0 then s ++ (a :: b :: c :: (J ++ .cells [.int .i64 lo, x] :: D)) else (s ++ (a :: b :: c :: (J ++ .cells [.int .i64 lo, x] :: D))).set (s.length + (dF + 3)) (.cells [])) = s ++ (a :: b :: c :: (J1 ++ .cells [.int .i64 lo, x] :: D)) ∧ ∀ i, (k ≠ 0 → i ≠ dF) → J1[i]? = J[i]? := by
    by_cases h0 : k = 0
    · exact ⟨J, rfl, if_pos h0, fun _ _ => rfl⟩
    · refine ⟨J.set dF (.cells []), by simp, ?_, fun i hi => by rw [List.getElem?_set_ne (fun e => hi h0 e.symm)]⟩
      rw [if_neg h0, lay_set, List.set_append_left _ _ (hdF h0)]
  refine ⟨J1 ++ .cells [.int .i64 lo, x] :: D ++ [.cells (fcs ++ [.int .i64 lo, x])], ids ++ [s.length + (di + 3)], fun r => ?_, fun a' b' c' => ?_, fun a' b' c' => .inr ⟨by omega, by simp, rfl, ?_, ?_⟩, ?_, ?_, ?_⟩
  · rw [ha r, hJ1]
    have e1 : (s ++ (a :: b :: c :: (J ++ .cells [.int .i64 lo, x] :: D))).length = s.length + (J.length + 1 + D.length + 3) := by simp; omega
    rw [e1]
    simp
  · refine FunsV.snoc (f := ⟨lo, code⟩) ?_ (hf1.keep fun id hid => ?_)
    · refine hrow a' b' c' _ fun i h1 h2 => ?_
      obtain ⟨e, rfl⟩ : ∃ e, i = J.length + 1 + e := ⟨i - (J.length + 1), by omega⟩
      rw [List.append_assoc, List.cons_append, lay2_get, ← hl, lay2_get, List.getElem?_append_left (by omega)]
    · obtain ⟨q1, q2, q3⟩ := hf4 id hid
      refine lay_old q1 ?_
      have hlt : id - (s.length + 3) < J.length := by omega
      rw [List.append_assoc, List.getElem?_append_left (by omega)]
      exact hold _ (fun h0 e => q3 h0 (by omega))
  · rw [lay_get, ← hl, List.append_assoc, List.cons_append, lay2_get]; simp
  · rcases hf2 with ⟨q1, q2, _⟩ | ⟨_, _, _, _, q5⟩
    · subst q1; subst q2; rfl
    · simp only [List.length_append, q5, List.length_cons, List.length_nil]; omega
  · rw [List.nodup_append]
    refine ⟨hf3, by simp, fun i hi j hj e => ?_⟩
    simp at hj
    have := hf4 i hi
    omega
  · intro id hid
    rcases List.mem_append.1 hid with h | h
    · have := hf4 id h
      simp; omega
    · simp at h
      simp; omega
  · simp [hl]; omega
end Go.Hb
namespace Go.Hb
open Go
/-- so far each of the first j is turned -/
def turned {α : Type} (g : α → α) (l : List α) (j : Nat) : List α := (l.take j).map g ++ l.drop j
theorem turned_len {α : Type} (g : α → α) (l : List α) (j : Nat) : (turned g l j).length = l.length := by simp [turned]; omega
theorem turned_0 {α : Type} (g : α → α) (l : List α) : turned g l 0 = l := by simp [turned]
theorem turned_all {α : Type} (g : α → α) (l : List α) : turned g l l.length = l.map g := by simp [turned]
theorem turned_nth {α : Type} [Enc α] (g : α → α) {l : List α} {j : Nat} (h : j < l.length) : nth (turned g l j) j = nth l j := by
  rw [nth_eq (by rw [turned_len]; exact h), nth_eq h]
  simp only [turned]
  rw [List.getElem_append_right (by simp; omega)]
  have : ((l.take j).map g).length = j := by simp; omega
  simp only [this, Nat.sub_self, List.getElem_drop, Nat.add_zero]
theorem turned_set {α : Type} [Enc α] (g : α → α) {l : List α} {j : Nat} (h : j < l.length) : (turned g l j).set j (g (nth l j)) = turned g l (j + 1) := by
  have hl : ((l.take j).map g).length = j := by simp; omega
  unfold turned
  rw [List.set_append_right _ _ (by omega), hl, Nat.sub_self, drop_nth h, List.set_cons_zero, take_succ_nth h]
  simp
theorem setAt_row : ∀ (l : List Ins) (j : Nat) (x y : Int), j < l.length → setAt (rowCs l) (j * 2) [.int .i64 x, .int .i64 y] = rowCs (l.set j ⟨x, y⟩)
  | i :: l, 0, x, y, _ => by simp [rowCs_cons, setAt]
  | i :: l, j + 1, x, y, h => by
    have ih := setAt_row l j x y (by simpa using h)
    rw [List.set_cons_succ, rowCs_cons, rowCs_cons, ← ih]
    have e : (j + 1) * 2 = j * 2 + 1 + 1 := by omega
    simp only [setAt, enc_ins, e, List.cons_append, List.nil_append, List.set_cons_succ]
theorem row_two {l : List Ins} {j : Nat} (h : j < l.length) : ((rowCs l).drop (j * 2)).take 2 = [.int .i64 (nth l j).op, .int .i64 (nth l j).a] := by
  have := rowCs_at h
  simpa using this
theorem instrOf_lv (p : Prog) (f : Fn_) (i : Ins) : (instrOf p f i).lv = (let op' := around i.op 27; let m := most p f op'; if asks op' = false then [.int .i64 op', .int .i64 0] else if m = 0 then [.int .i64 12, .int .i64 0] else if op' = 0 then [.int .i64 0, .int .i64 (i.a.tmod 1000)] else [.int .i64 op', .int .i64 (around i.a m)]) := by
  unfold instrOf
  simp only
  split
  · rfl
  · split
    · rfl
    · split <;> rfl
end Go.Hb
namespace Go.Hb
open Go
/-! functions as values -/
/-- What a call from the objects s hands on. -/
def Ret (P : Program) (f : FuncId) (args : List LV) (s : List AObj) (y : LV) : Prop := ∀ v, aCalls P f args s v fun x s' v' => y = x ∧ s = s' ∧ v <+: v'
theorem PureC.ret {P : Program} {f : FuncId} {args : List LV} {s : List AObj} {y : LV} (h : PureC P f args y) : Ret P f args s y := fun v => h s v
theorem callR {P : Program} {f : FuncId} {args : List LV} {s : List AObj} {v : List Nat} {y : LV} {K : LV → List AObj → List Nat → Prop} (h : Ret P f args s y) (k : ∀ v', v <+: v' → K y s v') : aCalls P f args s v K :=
  aCalls_mono (h v) fun x s' v' ⟨e1, e2, e3⟩ => by subst e1; subst e2; exact k v' e3
theorem Ret.of {P : Program} {f : FuncId} {args : List LV} {s : List AObj} {y : LV} (h : ∀ v, aCalls P f args s v (Ends s v y)) : Ret P f args s y := fun v => aCalls_ends (h v)
def fidx {α : Type} (p : α → Bool) (l : List α) : Int := match l.findIdx? p with | some i => (i : Int) | none => -1
theorem fidx_at {α : Type} [Enc α] {p : α → Bool} {l : List α} {k : Nat} (h : k < l.length) (h1 : ∀ j, j < k → p (nth l j) = false) (h2 : p (nth l k) = true) : fidx p l = k := by
  have : l.findIdx? p = some k := by
    rw [List.findIdx?_eq_some_iff_getElem]
    refine ⟨h, by rw [← nth_eq h]; exact h2, fun j hj => ?_⟩
    have := h1 j hj
    rw [nth_eq (by omega)] at this
    simp [this]
  simp [fidx, this]
theorem fidx_none {α : Type} [Enc α] {p : α → Bool} {l : List α} (h1 : ∀ j, j < l.length → p (nth l j) = false) : fidx p l = -1 := by
  have : l.findIdx? p = none := by
    rw [List.findIdx?_eq_none_iff]
    intro x hx
    obtain ⟨j, hj, rfl⟩ := List.getElem_of_mem hx
    have := h1 j hj
    rw [nth_eq hj] at this
    exact this
  simp [fidx, this]
theorem fidx_any {α : Type} (p : α → Bool) (l : List α) : decide (0 ≤ fidx p l) = l.any p := by
  unfold fidx
  cases h : l.findIdx? p with
  | none =>
    have := List.findIdx?_eq_none_iff.1 h
    simp only [show ¬ ((0 : Int) ≤ -1) by omega, decide_false]
    symm
    rw [List.any_eq_false]
    intro x hx; simp [this x hx]
  | some i =>
    have := (List.findIdx?_eq_some_iff_getElem.1 h)
    obtain ⟨h1, h2, _⟩ := this
    simp only [Int.natCast_nonneg, decide_true]
    symm
    rw [List.any_eq_true]
    exact ⟨l[i], List.getElem_mem h1, h2⟩
end Go.Hb
namespace Go.Hb
open Go
/-- What is handed over may be known less exactly. -/
theorem aCalls_argw {P : Program} {f : FuncId} {args args' : List LV} {s : List AObj} {v : List Nat} {R : LV → List AObj → List Nat → Prop} (hw : Weaks args args') (h : aCalls P f args' s v R) : aCalls P f args s v R :=
  ⟨h.1, fun C vs h1 h2 h3 => h.2 C vs h1 h2 (Weaks.rel hw h3)⟩
end Go.Hb
namespace Go.Hb
theorem zeros_nil (z : List LV) : zeros z 0 = [] := rfl
theorem zeros_succ (z : List LV) (n : Nat) : zeros z (n + 1) = z ++ zeros z n := by simp [zeros, List.replicate_succ]
attribute [simp] zeros_nil zeros_succ
end Go.Hb
end

section
namespace Go.Hb
open Go
/-! bytes that are written -/
def shortN (n : Nat) : List UInt8 := if h : n < 128 then [UInt8.ofNat n] else UInt8.ofNat (128 + n % 128) :: shortN (n / 128)
termination_by n
decreasing_by omega
def shortB (v : Int) : List UInt8 := shortN v.toNat
theorem shortN_len : ∀ (k n : Nat), n < 128 ^ k → 0 < k → (shortN n).length ≤ k
  | 0, _, _, h => absurd h (by omega)
  | k + 1, n, h, _ => by
    rw [shortN]
    by_cases h1 : n < 128
    · simp [h1]
    · simp only [h1, dite_false, List.length_cons]
      by_cases hk : k = 0
      · subst hk; simp at h; omega
      · have := shortN_len k (n / 128) (by rw [Nat.pow_succ] at h; omega) (by omega)
        omega
theorem shortB_len {v : Int} (h : v ≤ 9223372036854775807) : (shortB v).length ≤ 9 := by
  have e : (128 : Nat) ^ 9 = 9223372036854775808 := by decide
  exact shortN_len 9 _ (by rw [e]; omega) (by omega)
def signedB (a : Int) : List UInt8 :=
  let v := if a < -2305843009213693952 then -2305843009213693952 else if 2305843009213693951 < a then 2305843009213693951 else a
  if v < 0 then shortB (2 * (-(v + 1)) + 1) else shortB (2 * v)
def insB (i : Ins) : List UInt8 := UInt8.ofInt i.op :: signedB i.a
def fnB (f : Fn_) : List UInt8 := shortB f.locals ++ shortB f.code.length ++ f.code.flatMap insB
def listB (l : List Int) : List UInt8 := shortB l.length ++ l.flatMap shortB
def writeP (p : Prog) : List UInt8 := shortB p.funcs.length ++ p.funcs.flatMap fnB ++ shortB p.mutexes ++ listB p.conds ++ listB p.semas ++ listB p.chans ++ (shortB p.choices.length ++ p.choices.flatMap listB) ++ shortB p.threads

theorem u8_or : ∀ m : Nat, m < 256 → IntKind.u8.wrap ((BitVec.ofInt IntKind.u8.bits ((m : Nat) : Int) ||| BitVec.ofInt IntKind.u8.bits 128).toNat : Int) = ((UInt8.ofNat (128 + m % 128)).toNat : Int) := by decide +kernel
theorem u8_wrap (n : Nat) : IntKind.u8.wrap (n : Int) = ((n % 256 : Nat) : Int) := by
  simp [IntKind.wrap, IntKind.signed, IntKind.bits]
theorem u8_of (n : Nat) : (UInt8.ofNat n).toNat = n % 256 := by simp
theorem u8_or0 : ∀ m : Nat, m < 256 → IntKind.u8.wrap (((m ||| 128 : Nat)) : Int) = ((UInt8.ofNat (128 + m % 128)).toNat : Int) := by decide +kernel
theorem u8_or1 (q : Nat) : IntKind.u8.wrap (((((q : Int) % 2 ^ IntKind.u8.bits).toNat ||| 128 % 2 ^ IntKind.u8.bits : Nat)) : Int) = ((UInt8.ofNat (128 + q % 128)).toNat : Int) := by
  have e1 : ((q : Int) % 2 ^ IntKind.u8.bits).toNat = q % 256 := by
    have : ((2 : Int) ^ IntKind.u8.bits) = 256 := by decide
    rw [this]; omega
  have e2 : (128 : Nat) % 2 ^ IntKind.u8.bits = 128 := by decide
  rw [e1, e2, u8_or0 (q % 256) (by omega)]
  congr 2
  rw [show 128 + q % 256 % 128 = 128 + q % 128 by omega]
theorem u8_or2 (q : Nat) : IntKind.u8.wrap ((((IntKind.u8.wrap (q : Int) % 2 ^ IntKind.u8.bits).toNat ||| 128 % 2 ^ IntKind.u8.bits : Nat)) : Int) = ((UInt8.ofNat (128 + q % 128)).toNat : Int) := by
  have h := u8_or1 (q % 256)
  rw [← u8_wrap q, show 128 + q % 256 % 128 = 128 + q % 128 by omega] at h
  exact h
theorem u8_z {q : Nat} {z : Int} (h : z = ((UInt8.ofNat q).toNat : Int)) : IntKind.u8.wrap (q : Int) = z ∧ (q : Int) % 256 = z := by
  subst h; rw [u8_wrap, u8_of]; constructor
  · rfl
  · omega
/-- A writer's row: its bytes, at most B. -/
def WAt (v0 v : List Nat) (bs : List UInt8) (x : LV) (B : Nat) : Prop := GroE v0 v bs x ∧ bs.length ≤ B
def WPost (s : List AObj) (id : Nat) (v0 : List Nat) (bs : List UInt8) (B : Nat) (_ : LV) (s' : List AObj) (v' : List Nat) : Prop := ∃ x', s' = s.set id (.cells [x']) ∧ WAt v0 v' bs x' B
theorem callW {P : Program} {f : FuncId} {args : List LV} {s : List AObj} {v v0 : List Nat} {id B : Nat} {bs : List UInt8} {K : LV → List AObj → List Nat → Prop} (h : aCalls P f args s v (WPost s id v0 bs B)) (k : ∀ y x' v', WAt v0 v' bs x' B → K y (s.set id (.cells [x'])) v') : aCalls P f args s v K :=
  aCalls_mono h fun y s' v' ⟨x', e1, e2⟩ => by subst e1; exact k y x' v' e2
end Go.Hb
end

section
namespace Go.Hb
open Go Go.RowKit

@[simp] theorem intsOf_nil : intsOf [] = some [] := rfl
@[simp] theorem intsOf_cons (a : Int) (r : List LV) : intsOf (.int .i64 a :: r) = (intsOf r).map (a :: ·) := rfl

/-! a copy of a row, that is the call's own -/
theorem own_clone {α : Type} [Enc α] {P : Program} {t t2 : TypeId} {sz by_ : Nat} (hok : appOk P t t2 sz by_ = true) (hsz : Enc.sz α = sz) {l : List α} (h0 : l.length ≠ 0) (b0 : l.length ≤ maxLen) (b : l.length * by_ ≤ 140737488355328) (S : List AObj) :
    aAppendOwn P t t2 (.imm sz 0 [] .full) (row l) S = some (.ref sz S.length 0 l.length false, S ++ [.cells (rowCs l)]) := by
  subst hsz
  unfold appOk at hok
  split at hok
  rotate_left
  · cases hok
  rename_i e hu
  simp only [Bool.and_eq_true] at hok
  obtain ⟨⟨⟨hs, hb⟩, hn⟩, hz⟩ := hok
  cases hs' : szT P e with
  | none => rw [hs'] at hs; cases hs
  | some s' =>
  rw [hs'] at hs; simp at hs; subst hs
  cases hb' : bytesT P e with
  | none => rw [hb'] at hb; cases hb
  | some b' =>
  rw [hb'] at hb; simp at hb; subst hb
  cases hz' : zeroT P e with
  | none => rw [hz'] at hz; cases hz
  | some z =>
  rw [hz'] at hz; simp only [Bool.and_eq_true, beq_iff_eq] at hz
  have hy : aCells (Enc.sz α) (row l) S = some (rowCs l, l.length) := by simp [aCells, row]
  have hnil : aAppendNil P t t2 (.imm (Enc.sz α) 0 [] .full) (row l) S = false := by
    unfold aAppendNil
    simp only [hu, hs', hy]
    simp [h0]
  unfold aAppendOwn
  rw [if_neg (by rw [hnil]; simp)]
  simp only
  unfold aAppendNew
  simp only [hu, hs', hb', hz', hy]
  rw [if_pos ⟨hn, hz.1, hz.2⟩]
  simp only [aHead, if_true]
  rw [if_pos ⟨by omega, by simpa using b, h0⟩]
  simp
theorem own_clone0 {P : Program} {t t2 : TypeId} {sz by_ : Nat} (hok : appOk P t t2 sz by_ = true) (S : List AObj) : aAppendOwn P t t2 (.imm sz 0 [] .full) (.emp sz) S = some (.imm sz 0 [] .full, S) := by
  unfold appOk at hok
  split at hok
  rotate_left
  · cases hok
  rename_i e hu
  simp only [Bool.and_eq_true] at hok
  obtain ⟨⟨⟨hs, hb⟩, hn⟩, hz⟩ := hok
  cases hs' : szT P e with
  | none => rw [hs'] at hs; cases hs
  | some s' =>
  rw [hs'] at hs; simp at hs; subst hs
  unfold aAppendOwn
  rw [if_pos]
  unfold aAppendNil
  simp only [hu, hs', hn, aSl, aCells, if_true]
  simp
/-- What Clone hands on. -/
def CloneR {α : Type} [Enc α] (l : List α) (s : List AObj) (v : List Nat) (x : LV) (s' : List AObj) (v' : List Nat) : Prop :=
  v = v' ∧ ((l = [] ∧ s = s' ∧ (x = .nils ∨ x = .imm (Enc.sz α) 0 [] .full)) ∨ (l ≠ [] ∧ x = .ref (Enc.sz α) s.length 0 l.length false ∧ s ++ [.cells (rowCs l)] = s'))

theorem aSlice_ref_l {P : Program} {t : TypeId} {sz id off n : Nat} {fl : Bool} {κ : IntKind} {a : Int} (h0 : 0 ≤ a) (h1 : a < n) :
    aSlice P t (.ref sz id off n fl) (some (.int κ a)) none none = if elemSz P t = some sz then some (.ref sz id (off + a.toNat * sz) (n - a.toNat) fl) else none := by
  by_cases he : elemSz P t = some sz
  · rw [if_pos he]
    obtain ⟨e, hu, hs⟩ := elemSz_some he
    have hb : aBounds n (some (.int κ a)) none none = some (a.toNat, n, none) := by
      simp [aBounds, oInt, h0]; omega
    unfold aSlice
    simp only [hu, hs, if_true]
    rw [hb]
    simp only [Option.bind_some, Option.getD_none]
    rw [if_pos (.inl (by omega))]
    simp
  · rw [if_neg he]
    unfold aSlice
    split
    · rename_i e hu
      split
      · rename_i n hs
        simp only
        rw [if_neg]
        intro h1
        exact he (by unfold elemSz; rw [hu]; simp only; rw [hs, h1])
      · rfl
    · rfl
    · rfl
theorem aSlice_ref_h {P : Program} {t : TypeId} {sz id off n : Nat} {fl : Bool} {κ : IntKind} {b : Int} (h0 : 0 ≤ b) (h1 : b ≤ n) :
    aSlice P t (.ref sz id off n fl) none (some (.int κ b)) none = if elemSz P t = some sz then some (.ref sz id off b.toNat (fl && decide (b.toNat = n))) else none := by
  by_cases he : elemSz P t = some sz
  · rw [if_pos he]
    obtain ⟨e, hu, hs⟩ := elemSz_some he
    have hb : aBounds n none (some (.int κ b)) none = some (0, b.toNat, none) := by
      simp [aBounds, oInt, h0, h1]
    unfold aSlice
    simp only [hu, hs, if_true]
    rw [hb]
    simp only [Option.bind_some]
    rw [if_pos (.inr trivial)]
    simp
  · rw [if_neg he]
    unfold aSlice
    split
    · rename_i e hu
      split
      · rename_i n hs
        simp only
        rw [if_neg]
        intro h1
        exact he (by unfold elemSz; rw [hu]; simp only; rw [hs, h1])
      · rfl
    · rfl
    · rfl
theorem rowInt_at {l : List Int} {i : Nat} (h : i < l.length) : (rowCs l)[i]? = some (.int .i64 (nth l i)) := by
  have := rowCs_at (l := l) h
  simp only [sz_int, Nat.mul_one, enc_int] at this
  have h2 : ((rowCs l).drop i)[0]? = some (.int .i64 (nth l i)) := by
    have : (((rowCs l).drop i).take 1)[0]? = some (.int .i64 (nth l i)) := by rw [this]; rfl
    simpa using this
  simpa using h2
theorem setAt_int : ∀ (l : List Int) (j : Nat) (x : Int), j < l.length → setAt (rowCs l) j [.int .i64 x] = rowCs (l.set j x)
  | i :: l, 0, x, _ => by simp [rowCs_cons, setAt]
  | i :: l, j + 1, x, h => by
    have ih := setAt_int l j x (by simpa using h)
    rw [List.set_cons_succ, rowCs_cons, rowCs_cons, ← ih]
    simp [setAt, enc_int]

/-! the kit's sort of whole numbers -/
def IntSortOk (P : Program) (f : FuncId) : Prop := ∀ (blk off cap : Nat) (zs : List Int) (w : World), Go.Sort.Holds (Value.int .i64) w blk off zs.toArray → blk < w.heap.size → zs.length < 4611686018427387904 →
  Calls P f #[.slice (some ⟨blk, off, none⟩) zs.length cap] w fun e w' => e = .returned (.tuple #[]) ∧ ∃ n os, w' = Go.Sort.grow (Go.Sort.putRow (Value.int .i64) (Go.Sort.ahead w n) blk off (zs.mergeSort fun x y => decide (x ≤ y)).toArray) os
theorem rowInt_cs : ∀ l : List Int, rowCs l = l.map (LV.int .i64)
  | [] => rfl
  | a :: l => by rw [rowCs_cons, rowInt_cs l]; rfl
theorem relInts {C : Ctx} : ∀ (l : List Int) (us : List Value), RelVs C (rowCs l) us ↔ us = l.map (Value.int .i64)
  | [], us => by simp [RelVs]
  | a :: l, us => by
    rw [rowCs_cons]
    simp only [enc_int, List.cons_append, List.nil_append, RelVs, RelV]
    constructor
    · rintro ⟨v, vs, rfl, rfl, h⟩
      rw [(relInts l vs).1 h]; rfl
    · rintro rfl
      exact ⟨_, _, rfl, rfl, (relInts l _).2 rfl⟩
theorem putRow_int (w : World) (b : Nat) (l : List Int) : Go.Sort.putRow (Value.int .i64) w b 0 l.toArray = Go.Sort.putRow _root_.id w b 0 (l.map (Value.int .i64)).toArray := by
  unfold Go.Sort.putRow
  congr 1
  funext c
  unfold Go.Sort.putCells
  apply Array.ext_getElem?
  intro i
  simp only [Array.getElem?_mapIdx]
  cases c[i]? with
  | none => rfl
  | some x =>
    simp only [Option.map_some, Option.some.injEq, List.size_toArray, List.length_map, Nat.zero_add, Nat.sub_zero, Nat.zero_le, true_and]
    by_cases h : i < l.length
    · simp [h]
    · simp [h]
def sorted (l : List Int) : List Int := l.mergeSort fun x y => decide (x ≤ y)
theorem sorted_perm (l : List Int) : (sorted l).Perm l := List.mergeSort_perm l _
theorem sorted_len (l : List Int) : (sorted l).length = l.length := (sorted_perm l).length_eq
theorem sorted_le (l : List Int) : (sorted l).Pairwise (· ≤ ·) := by
  have := List.pairwise_mergeSort (le := fun x y : Int => decide (x ≤ y)) (fun a b c h1 h2 => by simp at *; omega) (fun a b => by simp; omega) l
  exact this.imp (by simp)
theorem sortI_c {P : Program} {f : FuncId} (hf : fnOk P f = true) (K : IntSortOk P f) {s : List AObj} {v : List Nat} {id : Nat} {l : List Int} (hs : s[id]? = some (.cells (rowCs l))) (hne : l ≠ []) (hn : l.length < 4611686018427387904) :
    aCalls P f [.ref 1 id 0 l.length false] s v fun y s' v' => y = .tup [] ∧ s.set id (.cells (rowCs (sorted l))) = s' ∧ v = v' := by
  refine ⟨hf, fun C vs hok hτ hargs => ?_⟩
  obtain ⟨v0, r0, e0, h0, e2⟩ := hargs
  subst e2
  simp only [RelV] at h0
  obtain ⟨hid, cap, rfl, hc1, hc2, _, hc3⟩ := h0
  have hvs : vs = #[.slice (some ⟨C.ρ id, 0, none⟩) l.length cap] := by
    cases vs; simp at e0; simp [e0]
  subst hvs
  obtain ⟨old, T, us, ws, k1, k2, k3, k4⟩ := hok.obj id _ hs
  rw [relInts] at k3
  subst k3
  have hblk : C.ρ id < C.w.heap.size := (Array.getElem?_eq_some_iff.1 k1).1
  have hH : Go.Sort.Holds (Value.int .i64) C.w (C.ρ id) 0 l.toArray := by
    intro j hj
    have hj' : j < l.length := by simpa using hj
    have hold : old[j]? = some (.int .i64 l[j]) := by
      rw [← Array.getElem?_toList, k2, List.getElem?_append_left (by simpa using hj')]
      simp [hj']
    constructor
    · simp only [World.cell?, Nat.zero_add, k1]
      simpa [hj'] using hold
    · simp [World.frozen?, k1]
  refine (K (C.ρ id) 0 cap l C.w hH hblk hn).mono ?_
  rintro e w' ⟨rfl, n, os, rfl⟩
  have hF : RelVs C (rowCs (sorted l)) ((sorted l).map (Value.int .i64)).toArray.toList := (relInts _ _).2 rfl
  have h1F : ∀ u ∈ ((sorted l).map (Value.int .i64)).toArray.toList, u.oneCell' = true := by
    intro u hu
    obtain ⟨t, _, rfl⟩ := List.mem_map.1 (by simpa using hu)
    rfl
  have hne' : rowCs l ≠ [] := by rw [rowInt_cs]; simpa using hne
  obtain ⟨C', c1, c2, c3, c4⟩ := sort_bridge hok hs hne' ((sorted l).map (Value.int .i64)).toArray hF h1F (by rw [rowInt_cs, rowInt_cs, List.length_map, List.length_map, sorted_len]; omega) n os
  refine ⟨C', .tup [], .tuple #[], _, v, ?_, rfl, c2, c3, c4.trans hτ, by simp only [RelV]; exact ⟨#[], rfl, rfl⟩, rfl, rfl, rfl⟩
  rw [c1, ← putRow_int]; rfl
end Go.Hb
end

section
namespace Go.Hb
open Go
/-! a program made such as may be, may be -/
theorem ddStep_nodup {acc : List Int} {x : Int} (h : acc.Nodup) : (ddStep acc x).Nodup := by
  unfold ddStep
  split
  · exact h
  · rename_i h1
    rw [List.nodup_append]
    refine ⟨h, by simp, fun a ha b hb e => h1 ?_⟩
    simp at hb; subst hb; subst e
    exact List.any_eq_true.2 ⟨a, ha, by simp⟩
theorem ddStep_mem {acc : List Int} {x y : Int} (h : y ∈ ddStep acc x) : y ∈ acc ∨ y = x := by
  unfold ddStep at h
  split at h
  · exact .inl h
  · rcases List.mem_append.1 h with h | h
    · exact .inl h
    · exact .inr (by simpa using h)
theorem foldl_dd : ∀ (l acc : List Int), acc.Nodup → (l.foldl ddStep acc).Nodup ∧ ∀ y ∈ l.foldl ddStep acc, y ∈ acc ∨ y ∈ l
  | [], acc, h => ⟨h, fun y hy => .inl hy⟩
  | x :: l, acc, h => by
    obtain ⟨h1, h2⟩ := foldl_dd l (ddStep acc x) (ddStep_nodup h)
    refine ⟨h1, fun y hy => ?_⟩
    rcases h2 y hy with h3 | h3
    · rcases ddStep_mem h3 with h4 | h4
      · exact .inl h4
      · exact .inr (by simp [h4])
    · exact .inr (by simp [h3])
theorem dd_nodup (l : List Int) : (dd l).Nodup := (foldl_dd l [] (by simp)).1
theorem dd_mem {l : List Int} {y : Int} (h : y ∈ dd l) : y ∈ l := by
  rcases (foldl_dd l [] (by simp)).2 y h with h | h
  · simp at h
  · exact h
theorem most_eq {p q : Prog} {f g : Fn_} (h1 : p.funcs.length = q.funcs.length) (h2 : p.mutexes = q.mutexes) (h3 : p.conds = q.conds) (h4 : p.semas = q.semas) (h5 : p.chans = q.chans) (h6 : p.choices = q.choices) (h7 : f.locals = g.locals) (h8 : f.code.length = g.code.length) (op : Int) : most p f op = most q g op := by
  unfold most
  rw [h1, h2, h3, h4, h5, h6, h7, h8]
theorem most_pos {p : Prog} {f : Fn_} {op : Int} (h1 : 0 ≤ p.mutexes) (h2 : 0 ≤ f.locals) : 0 ≤ most p f op := by
  unfold most mostL
  repeat' split
  all_goals omega
theorem mayI_instrOf {p q : Prog} {f g : Fn_} (i : Ins) (h1 : 0 ≤ p.mutexes) (h2 : 0 ≤ f.locals) (h : ∀ op, most q g op = most p f op) : mayI q g (instrOf p f i) = true := by
  have hop := around_in (n := i.op) (m := 27) (by omega)
  unfold instrOf
  simp only
  split
  · rename_i h3
    simp [mayI, h3]; omega
  · rename_i h3
    split
    · rename_i h4
      simp [mayI, asks]
    · rename_i h4
      split
      · rename_i h5
        have e1 : most q g 0 = 1073741825 := by simp [most, mostL]
        have := Int.tmod_lt_of_pos i.a (b := 1000) (by omega)
        have := Int.lt_tmod_of_pos i.a (b := 1000) (by omega)
        simp only [mayI, asks, e1]
        by_cases h6 : i.a.tmod 1000 < 0
        · simp [h6]; omega
        · simp [h6]; omega
      · rename_i h5
        have hm := most_pos (op := around i.op 27) h1 h2
        have ha := around_in (n := i.a) (m := most p f (around i.op 27)) (by omega)
        simp only [Bool.not_eq_false] at h3
        simp only [mayI, h3, h, if_true]
        simp [h5]; omega
theorem things_allTo {l : List Int} {to to' : Int} (h : to ≤ to') : allTo (things l to) to' = true := by
  unfold allTo
  rw [List.all_eq_true]
  intro x hx
  have := things_in hx
  simp; omega
theorem good_may (p : Prog) : mayP (good p) = true := by
  have hmu := around_in (n := p.mutexes) (m := 4) (by omega)
  have hth := around_in (n := p.threads) (m := 8) (by omega)
  have l1 := things_len p.conds (around p.mutexes 4 - 1)
  have l2 := things_len p.semas 3
  have l3 := things_len p.chans 3
  have l4 : (goodChs (things p.chans 3).length (p.choices.take 4)).length ≤ 4 := by
    unfold goodChs
    refine Nat.le_trans (List.length_filter_le _ _) ?_
    simp; omega
  have l5 : 1 ≤ (goodFs p.funcs).length ∧ (goodFs p.funcs).length ≤ 4 := by
    unfold goodFs
    split
    · simp
    · simp; omega
  have hc : ((good p).choices.all (mayCh (good p))) = true := by
    rw [List.all_eq_true]
    intro l hl
    have hl : l ∈ goodChs (things p.chans 3).length (p.choices.take 4) := hl
    unfold goodChs at hl
    obtain ⟨hl, h0⟩ := List.mem_filter.1 hl
    obtain ⟨l0, _, rfl⟩ := List.mem_map.1 hl
    have h0 : 0 < (goodCh (things p.chans 3).length l0).length := by simpa using h0
    have k1 := dd_len (things l0 ((things p.chans 3).length - 1))
    have k2 := things_len l0 ((things p.chans 3).length - 1)
    have e1 : (good p).chans = things p.chans 3 := rfl
    unfold mayCh
    rw [e1]
    have a1 : allTo (goodCh (things p.chans 3).length l0) ((things p.chans 3).length - 1) = true := by
      unfold allTo
      rw [List.all_eq_true]
      intro x hx
      have := things_in (dd_mem hx)
      simp; omega
    have a2 : (goodCh (things p.chans 3).length l0).Nodup := dd_nodup _
    have a3 : (goodCh (things p.chans 3).length l0).length ≤ 8 := by unfold goodCh; omega
    simp only [a1, a2, a3, Bool.true_and, decide_true, Bool.and_true, decide_eq_true_eq]
    omega
  have hf : ((good p).funcs.all (mayF (good p))) = true := by
    rw [List.all_eq_true]
    intro f hf
    obtain ⟨g, hg, rfl⟩ := List.mem_map.1 hf
    have hg : g ∈ goodFs p.funcs := hg
    have hg2 : 0 ≤ g.locals ∧ g.locals ≤ 8 ∧ g.code.length ≤ 64 := by
      unfold goodFs at hg
      split at hg
      · simp at hg; subst hg; simp
      · obtain ⟨g0, _, rfl⟩ := List.mem_map.1 hg
        have := around_in (n := g0.locals) (m := 4) (by omega)
        simp only [goodF, List.length_take]; omega
    have hi : (g.code.map (instrOf (good0 p) g)).all (mayI (good p) ⟨g.locals, g.code.map (instrOf (good0 p) g)⟩) = true := by
      rw [List.all_eq_true]
      intro i hi
      obtain ⟨j, _, rfl⟩ := List.mem_map.1 hi
      refine mayI_instrOf j ?_ hg2.1 fun op => ?_
      · exact hmu.1
      · exact most_eq (p := good p) (q := good0 p) (f := ⟨g.locals, g.code.map (instrOf (good0 p) g)⟩) (g := g) (by simp [good]) rfl rfl rfl rfl rfl rfl (by simp) op
    unfold mayF
    rw [hi]
    simp; omega
  have e1 : (good p).funcs.length = (goodFs p.funcs).length := by show ((goodFs p.funcs).map _).length = _; simp
  have t1 : allTo (things p.conds (around p.mutexes 4 - 1)) (around p.mutexes 4 - 1) = true := things_allTo (by omega)
  have t2 : allTo (things p.semas 3) 100 = true := things_allTo (by omega)
  have t3 : allTo (things p.chans 3) 8 = true := things_allTo (by omega)
  unfold mayP
  rw [hc, hf, e1]
  have e2 : (good p).mutexes = around p.mutexes 4 := rfl
  have e3 : (good p).conds = things p.conds (around p.mutexes 4 - 1) := rfl
  have e4 : (good p).semas = things p.semas 3 := rfl
  have e5 : (good p).chans = things p.chans 3 := rfl
  have e6 : (good p).choices = goodChs (things p.chans 3).length (p.choices.take 4) := rfl
  have e7 : (good p).threads = 1 + around p.threads 8 := rfl
  rw [e2, e3, e4, e5, e6, e7]
  simp only [t1, t2, t3, Bool.and_true, Bool.and_eq_true, decide_eq_true_eq]
  omega
end Go.Hb
end

