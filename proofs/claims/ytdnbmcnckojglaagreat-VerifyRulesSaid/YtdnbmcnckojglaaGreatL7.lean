/-
  A layer for reasoning about the program's calls, and contracts of its functions (L7). CONDITIONS: none; each theorem bears its own.
-/
import Derived.Test.YtdnbmcnckojglaaGreatL6
set_option linter.unusedVariables false
set_option linter.unusedSimpArgs false
section
namespace Go.Hb
open Go
structure Ins where
 op : Int
 a : Int
structure Fn_ where
 locals : Int
 code : List Ins
structure Prog where
 funcs : List Fn_
 mutexes : Int
 conds : List Int
 semas : List Int
 chans : List Int
 choices : List (List Int)
 threads : Int
def Ins.lv (i : Ins) : List LV := [.int .i64 i.op, .int .i64 i.a]
instance : Enc Ins := ⟨2, Ins.lv, ⟨0, 0⟩, fun _ => rfl, fun _ _ => rfl⟩
@[simp] theorem sz_ins : Enc.sz Ins = 2 := rfl
@[simp] theorem enc_ins (i : Ins) : Enc.enc i = [.int .i64 i.op, .int .i64 i.a] := rfl
def Fn_.lv (f : Fn_) : List LV := [.int .i64 f.locals, row f.code]
instance : Enc Fn_ := ⟨2, Fn_.lv, ⟨0, []⟩, fun _ => rfl, fun f n => by simp [Fn_.lv, undersB, LV.under]⟩
@[simp] theorem sz_fn : Enc.sz Fn_ = 2 := rfl
@[simp] theorem enc_fn (f : Fn_) : Enc.enc f = [.int .i64 f.locals, row f.code] := rfl
def Prog.lv (p : Prog) : List LV := [row p.funcs, .int .i64 p.mutexes, row p.conds, row p.semas, row p.chans, row p.choices, .int .i64 p.threads]
instance : Enc Prog := ⟨7, Prog.lv, ⟨[], 0, [], [], [], [], 0⟩, fun _ => rfl, fun f n => by simp [Prog.lv, undersB, LV.under]⟩
instance : DecidableEq Ins := fun a b => decidable_of_iff (a.op = b.op ∧ a.a = b.a) ⟨fun ⟨h, k⟩ => by cases a; cases b; simp_all, fun h => by subst h; exact ⟨rfl, rfl⟩⟩
instance : DecidableEq Fn_ := fun a b => decidable_of_iff (a.locals = b.locals ∧ a.code = b.code) ⟨fun ⟨h, k⟩ => by cases a; cases b; simp_all, fun h => by subst h; exact ⟨rfl, rfl⟩⟩

def around (n m : Int) : Int := (if n < 0 then -(n + 1) else n) % m
theorem around_in {n m : Int} (hm : 0 < m) : 0 ≤ around n m ∧ around n m < m := ⟨Int.emod_nonneg _ (by omega), Int.emod_lt_of_pos _ hm⟩
def asks (op : Int) : Bool := decide (op = 0) || (decide (5 ≤ op) && decide (op ≤ 9)) || decide (op = 11) || (decide (15 ≤ op) && decide (op ≤ 24))
def mostL (fs mu co se ch cho lo cl op : Int) : Int :=
 if op = 0 then 1073741825 else if op = 5 ∨ op = 6 then lo else if op = 7 ∨ op = 8 then cl + 1 else if op = 9 ∨ op = 11 then fs
 else if op = 15 ∨ op = 16 then mu else if op = 17 ∨ op = 18 ∨ op = 19 then co else if op = 20 ∨ op = 21 then se
 else if op = 22 ∨ op = 23 then ch else if op = 24 then cho else 0
def most (p : Prog) (f : Fn_) (op : Int) : Int := mostL p.funcs.length p.mutexes p.conds.length p.semas.length p.chans.length p.choices.length f.locals f.code.length op
def mayI (p : Prog) (f : Fn_) (i : Ins) : Bool :=
 decide (0 ≤ i.op) && decide (i.op ≤ 26) && (if asks i.op = true then (if i.op = 0 ∧ i.a < 0 then decide (-1073741824 ≤ i.a) else decide (0 ≤ i.a) && decide (i.a < most p f i.op)) else decide (i.a = 0))
def allTo (l : List Int) (to : Int) : Bool := l.all fun x => decide (0 ≤ x) && decide (x ≤ to)
def mayCh (p : Prog) (l : List Int) : Bool := allTo l (p.chans.length - 1) && decide l.Nodup && decide (1 ≤ l.length) && decide (l.length ≤ 8)
def mayF (p : Prog) (f : Fn_) : Bool := decide (0 ≤ f.locals) && decide (f.locals ≤ 8) && decide (f.code.length ≤ 64) && f.code.all (mayI p f)
def mayP (p : Prog) : Bool :=
 decide (1 ≤ p.funcs.length) && decide (p.funcs.length ≤ 16) && decide (0 ≤ p.mutexes) && decide (p.mutexes ≤ 8) && decide (p.conds.length ≤ 8) && decide (p.semas.length ≤ 8) && decide (p.chans.length ≤ 8) && decide (p.choices.length ≤ 8)
 && decide (1 ≤ p.threads) && decide (p.threads ≤ 32) && allTo p.conds (p.mutexes - 1) && allTo p.semas 100 && allTo p.chans 8 && p.choices.all (mayCh p) && p.funcs.all (mayF p)
def things (l : List Int) (to : Int) : List Int := if to < 0 then [] else (l.take 4).map fun x => around x (to + 1)
def instrOf (p : Prog) (f : Fn_) (i : Ins) : Ins :=
 let op := around i.op 27
 if asks op = false then ⟨op, 0⟩ else if most p f op = 0 then ⟨12, 0⟩ else if op = 0 then ⟨0, i.a.tmod 1000⟩ else ⟨op, around i.a (most p f op)⟩
theorem take_succ_nth {α : Type} [Enc α] {l : List α} {k : Nat} (h : k < l.length) : l.take (k + 1) = l.take k ++ [nth l k] := by
 rw [List.take_add_one, List.getElem?_eq_getElem h, nth_eq h]; rfl
theorem drop_nth {α : Type} [Enc α] {l : List α} {k : Nat} (h : k < l.length) : l.drop k = nth l k :: l.drop (k + 1) := by
 rw [List.drop_eq_getElem_cons h, nth_eq h]
def ddStep (acc : List Int) (x : Int) : List Int := if acc.any (fun y => decide (y = x)) = true then acc else acc ++ [x]
def dd (l : List Int) : List Int := l.foldl ddStep []
theorem dd_succ {l : List Int} {j : Nat} (h : j < l.length) : dd (l.take (j + 1)) = ddStep (dd (l.take j)) (nth l j) := by
 unfold dd; rw [take_succ_nth h, List.foldl_append]; rfl
theorem foldl_dd_len : ∀ (l acc : List Int), (l.foldl ddStep acc).length ≤ acc.length + l.length
 | [], acc => by simp
 | x :: l, acc => by
  have h := foldl_dd_len l (ddStep acc x)
  have : (ddStep acc x).length ≤ acc.length + 1 := by unfold ddStep; split <;> simp
  simp only [List.foldl_cons, List.length_cons]; omega
theorem dd_len (l : List Int) : (dd l).length ≤ l.length := by have := foldl_dd_len l []; simpa [dd] using this
theorem things_len (l : List Int) (to : Int) : (things l to).length ≤ 4 := by unfold things; split <;> simp; omega
theorem things_in {l : List Int} {to x : Int} (h : x ∈ things l to) : 0 ≤ x ∧ x ≤ to := by
 unfold things at h
 split at h
 ·cases h
 ·obtain ⟨y, _, rfl⟩ := List.mem_map.1 h
  have := around_in (n := y) (m := to + 1) (by omega)
  omega
def goodCh (nch : Nat) (l : List Int) : List Int := dd (things l (nch - 1))
def goodChs (nch : Nat) (L : List (List Int)) : List (List Int) := (L.map (goodCh nch)).filter fun l => decide (0 < l.length)
def goodF (f : Fn_) : Fn_ := ⟨around f.locals 4, f.code.take 24⟩
def goodFs (L : List Fn_) : List Fn_ := if L.length = 0 then [⟨0, []⟩] else (L.take 4).map goodF
def good0 (p : Prog) : Prog :=
 ⟨goodFs p.funcs, around p.mutexes 4, things p.conds (around p.mutexes 4 - 1), things p.semas 3, things p.chans 3, goodChs (things p.chans 3).length (p.choices.take 4), 1 + around p.threads 8⟩
def good (p : Prog) : Prog := { good0 p with funcs := (good0 p).funcs.map fun f => ⟨f.locals, f.code.map (instrOf (good0 p) f)⟩ }
end Go.Hb
end

section
namespace Go.Hb
open Go

def RowR (S : List AObj) (sz n : Nat) (cs : List LV) (x : LV) (id : Nat) : Prop := (n = 0 ∧ cs = [] ∧ x = .nils) ∨ (n ≠ 0 ∧ cs ≠ [] ∧ x = .ref sz id 0 n false ∧ S[id]? = some (.cells cs) ∧ cs.length = n * sz)
theorem RowR.nil (S : List AObj) (sz id : Nat) : RowR S sz 0 [] .nils id := .inl ⟨rfl, rfl, rfl⟩
theorem own_app {P : Program} {t t2 : TypeId} {sz by_ : Nat} (hok : appOk P t t2 sz by_ = true) (hsz : 0 < sz) (hby : by_ ≤ 1000) {S : List AObj} {n id : Nat} {cs ds : List LV} {x : LV} (h : RowR S sz n cs x id) (hd : ds.length = sz) (b : n + 1 ≤ 100000000) :
  ∀ r, aAppendOwn P t t2 x (.imm sz 1 ds r) S = some (.ref sz S.length 0 (n + 1) false, (if n = 0 then S else S.set id (.cells [])) ++ [.cells (cs ++ ds)]) := by
 intro r
 have hm : (n + 1) * by_ ≤ 100000000 * 1000 := Nat.mul_le_mul b hby
 have hml : n + 1 ≤ maxLen := by unfold maxLen; omega
 unfold appOk at hok
 split at hok
 rotate_left
 ·cases hok
 rename_i e hu
 simp only [Bool.and_eq_true] at hok
 obtain ⟨⟨⟨hs, hb⟩, hn⟩, hz⟩ := hok
 cases hs' : szT P e with
 | none => rw [hs'] at hs; cases hs
 | some s' =>
 rw [hs'] at hs; simp at hs; subst hs
 cases hb' : bytesT P e with
 | none => rw [hb'] at hb; cases hb
 | some b' =>
 rw [hb'] at hb; simp at hb; subst hb
 cases hz' : zeroT P e with
 | none => rw [hz'] at hz; cases hz
 | some z =>
 rw [hz'] at hz; simp only [Bool.and_eq_true, beq_iff_eq] at hz
 have hy : aCells s' (.imm s' 1 ds r) S = some (ds, 1) := by simp [aCells]
 have hnil : aAppendNil P t t2 x (.imm s' 1 ds r) S = false := by
  unfold aAppendNil
  simp only [hu, hs', hy]
  simp
 have hds : 0 < ds.length := by omega
 unfold aAppendOwn
 rw [if_neg (by rw [hnil]; simp)]
 rcases h with ⟨rfl, rfl, rfl⟩ | ⟨h1, h1c, rfl, h2, h3⟩
 ·simp only [if_true]
  unfold aAppendNew
  simp only [hu, hs', hb', hz', hy]
  rw [if_pos ⟨hn, hz.1, hz.2⟩]
  simp only [aHead]
  rw [if_pos ⟨by omega, by omega, by omega⟩]
 ·rw [if_neg h1]
  unfold aAppendRef
  simp only [hu, hs', hb', hz', hy, h2]
  rw [if_pos ⟨hn, hz.1, hz.2⟩]
  have htk : cs.take (n * s') = cs := List.take_of_length_le (by omega)
  rw [if_pos ⟨by trivial, by trivial, by omega, hml, by omega, hds, h1c⟩, htk]

def FunsV (S : List AObj) : List Fn_ → List Nat → List LV → Prop
 | [], [], r => r = []
 | f :: fs, id :: ids, r => ∃ x r', r = .int .i64 f.locals :: x :: r' ∧ RowR S 2 f.code.length (rowCs f.code) x id ∧ FunsV S fs ids r'
 | _, _, _ => False
theorem RowR.keep {S S' : List AObj} {sz n id : Nat} {cs : List LV} {x : LV} (h : RowR S sz n cs x id) (hk : n ≠ 0 → S'[id]? = S[id]?) : RowR S' sz n cs x id := by
 rcases h with h | ⟨h1, h2, h3, h4, h5⟩
 ·exact .inl h
 ·exact .inr ⟨h1, h2, h3, (hk h1).trans h4, h5⟩
theorem FunsV.keep {S S' : List AObj} : ∀ {fs : List Fn_} {ids : List Nat} {r : List LV}, FunsV S fs ids r → (∀ id ∈ ids, S'[id]? = S[id]?) → FunsV S' fs ids r
 | [], [], _, h, _ => h
 | [], _ :: _, _, h, _ => h.elim
 | _ :: _, [], _, h, _ => h.elim
 | f :: fs, id :: ids, r, h, hk => by
  obtain ⟨x, r', rfl, h1, h2⟩ := h
  exact ⟨x, r', rfl, h1.keep fun _ => hk id (by simp), h2.keep fun i hi => hk i (by simp [hi])⟩
theorem FunsV.snoc {S : List AObj} {f : Fn_} {id : Nat} {x : LV} (hf : RowR S 2 f.code.length (rowCs f.code) x id) : ∀ {fs : List Fn_} {ids : List Nat} {r : List LV}, FunsV S fs ids r → FunsV S (fs ++ [f]) (ids ++ [id]) (r ++ [.int .i64 f.locals, x])
 | [], [], r, h => by simp only [FunsV] at h; subst h; exact ⟨x, [], rfl, hf, rfl⟩
 | [], _ :: _, _, h => h.elim
 | _ :: _, [], _, h => h.elim
 | g :: fs, i :: ids, r, h => by
  obtain ⟨y, r', rfl, h1, h2⟩ := h
  exact ⟨y, _, rfl, h1, FunsV.snoc hf h2⟩
theorem FunsV.len {S : List AObj} : ∀ {fs : List Fn_} {ids : List Nat} {r : List LV}, FunsV S fs ids r → r.length = fs.length * 2 ∧ ids.length = fs.length
 | [], [], _, h => by simp only [FunsV] at h; subst h; exact ⟨rfl, rfl⟩
 | [], _ :: _, _, h => h.elim
 | _ :: _, [], _, h => h.elim
 | f :: fs, id :: ids, r, h => by
  obtain ⟨x, r', rfl, h1, h2⟩ := h
  have := FunsV.len h2
  simp; omega
theorem FunsV.get {S : List AObj} : ∀ {fs : List Fn_} {ids : List Nat} {r : List LV} (i : Nat), FunsV S fs ids r → i < fs.length →
  ∃ x id, ids[i]? = some id ∧ (r.drop (i * 2)).take 2 = [.int .i64 (nth fs i).locals, x] ∧ RowR S 2 (nth fs i).code.length (rowCs (nth fs i).code) x id
 | [], _, _, _, _, hi => by simp at hi
 | f :: fs, [], _, _, h, _ => h.elim
 | f :: fs, id :: ids, r, 0, h, _ => by
  obtain ⟨x, r', rfl, h1, h2⟩ := h
  exact ⟨x, id, rfl, rfl, h1⟩
 | f :: fs, id :: ids, r, i + 1, h, hi => by
  obtain ⟨x, r', rfl, h1, h2⟩ := h
  obtain ⟨y, id', q1, q2, q3⟩ := FunsV.get i h2 (by simpa using hi)
  have hn : nth (f :: fs) (i + 1) = nth fs i := by simp [nth]
  rw [hn]
  exact ⟨y, id', by simpa using q1, by simpa [Nat.add_mul] using q2, q3⟩
theorem FunsV.put {S S' : List AObj} {c : List Ins} : ∀ {fs : List Fn_} {ids : List Nat} {r : List LV} (i : Nat) (id : Nat), FunsV S fs ids r → ids[i]? = some id → ids.Nodup → (∀ j ∈ ids, j ≠ id → S'[j]? = S[j]?) → c.length = (nth fs i).code.length → (c ≠ [] → S'[id]? = some (.cells (rowCs c))) →
  FunsV S' (fs.set i ⟨(nth fs i).locals, c⟩) ids r
 | [], [], _, i, id, h, hi, _, _, _, _ => by simp at hi
 | [], _ :: _, _, _, _, h, _, _, _, _, _ => h.elim
 | _ :: _, [], _, _, _, h, _, _, _, _, _ => h.elim
 | f :: fs, j :: ids, r, 0, id, h, hi, hnd, hk, hc, hid => by
  obtain ⟨x, r', rfl, h1, h2⟩ := h
  simp at hi; subst hi
  have hn : nth (f :: fs) 0 = f := rfl
  rw [hn] at hc
  refine ⟨x, r', rfl, ?_, h2.keep fun i hi => hk i (by simp [hi]) (by rintro rfl; simp at hnd; exact hnd.1 hi)⟩
  show RowR S' 2 c.length (rowCs c) x j
  rcases h1 with ⟨h1, h2, h3⟩ | ⟨h1, h2, h3, h4, h5⟩
  ·have : c = [] := List.length_eq_zero_iff.1 (by omega)
   subst this
   exact .inl ⟨rfl, rfl, h3⟩
  ·have hne : c ≠ [] := by intro e; subst e; simp at hc; omega
   refine .inr ⟨by rw [hc]; exact h1, ?_, by rw [hc]; exact h3, hid hne, rowCs_len c⟩
   intro e
   have := rowCs_len c
   rw [e, sz_ins, List.length_nil] at this
   exact hne (List.length_eq_zero_iff.1 (by omega))
 | f :: fs, j :: ids, r, i + 1, id, h, hi, hnd, hk, hc, hid => by
  obtain ⟨x, r', rfl, h1, h2⟩ := h
  have hn : nth (f :: fs) (i + 1) = nth fs i := by simp [nth]
  simp only [List.nodup_cons] at hnd
  have hi' : ids[i]? = some id := by simpa using hi
  have hne : j ≠ id := by rintro rfl; exact hnd.1 (List.mem_of_getElem? hi')
  have := FunsV.put (S' := S') (c := c) i id h2 hi' hnd.2 (fun k hk' => hk k (by simp [hk'])) (by rw [hn] at hc; exact hc) hid
  refine ⟨x, r', rfl, h1.keep fun _ => hk j (by simp) hne, ?_⟩
  rw [hn]; exact this
theorem FunsV.deep {S : List AObj} {n : Nat} : ∀ {fs : List Fn_} {ids : List Nat} {r : List LV}, FunsV S fs ids r → (∀ id ∈ ids, n ≤ id) → DeepVs S n r (rowCs fs)
 | [], [], _, h, _ => by simp only [FunsV] at h; subst h; exact .nil
 | [], _ :: _, _, h, _ => h.elim
 | _ :: _, [], _, h, _ => h.elim
 | f :: fs, id :: ids, r, h, hn => by
  obtain ⟨x, r', rfl, h1, h2⟩ := h
  rw [rowCs_cons]
  refine .cons _ _ _ _ (.keep _ (by simp)) (.cons _ _ _ _ ?_ (FunsV.deep h2 fun i hi => hn i (by simp [hi])))
  rcases h1 with ⟨q1, q2, rfl⟩ | ⟨q1, q2, rfl, q4, q5⟩
  ·have : f.code = [] := List.length_eq_zero_iff.1 q1
   rw [this]
   exact .weak _ _ _ (.keep _ rfl) Weak.nilrow
  ·refine .weak _ _ _ (.ref 2 id 0 f.code.length false (rowCs f.code) (rowCs f.code) (hn id (by simp)) q4 q2 (by omega) ?_) (Weak.refl _)
   have : (List.take (f.code.length * 2) (List.drop 0 (rowCs f.code))) = rowCs f.code := by rw [List.drop_zero, List.take_of_length_le (by omega)]
   rw [this]
   exact keepAll _ (rowCs_und n f.code)
where
 keepAll {S : List AObj} {n : Nat} : ∀ (l : List LV), undersB n l = true → DeepVs S n l l
 | [], _ => .nil
 | x :: xs, h => by
  simp only [undersB, Bool.and_eq_true] at h
  exact .cons _ _ _ _ (.keep _ h.1) (keepAll xs h.2)
end Go.Hb
namespace Go.Hb
theorem lay_get (s J : List AObj) (a b c : AObj) (d : Nat) : (s ++ (a :: b :: c :: J))[s.length + (d + 3)]? = J[d]? := by rw [get_app]; simp
theorem lay_set (s J : List AObj) (a b c o : AObj) (d : Nat) : (s ++ (a :: b :: c :: J)).set (s.length + (d + 3)) o = s ++ (a :: b :: c :: J.set d o) := by rw [set_app]; simp
theorem lay_old {s J J' : List AObj} {a b c a' b' c' : AObj} {id : Nat} (h : s.length + 3 ≤ id) (hj : J'[id - (s.length + 3)]? = J[id - (s.length + 3)]?) : (s ++ (a' :: b' :: c' :: J'))[id]? = (s ++ (a :: b :: c :: J))[id]? := by
 obtain ⟨d, rfl⟩ : ∃ d, id = s.length + (d + 3) := ⟨id - (s.length + 3), by omega⟩
 rw [lay_get, lay_get]
 rwa [show s.length + (d + 3) - (s.length + 3) = d by omega] at hj
end Go.Hb
namespace Go.Hb
open Go
theorem lay2_get (J D : List AObj) (F : AObj) (d : Nat) : (J ++ F :: D)[J.length + 1 + d]? = D[d]? := by
 rw [List.getElem?_append_right (by omega), show J.length + 1 + d - J.length = d + 1 by omega, List.getElem?_cons_succ]
theorem lay2_set (J D : List AObj) (F o : AObj) (d : Nat) : (J ++ F :: D).set (J.length + 1 + d) o = J ++ F :: D.set d o := by
 rw [List.set_append_right _ _ (by omega), show J.length + 1 + d - J.length = d + 1 by omega, List.set_cons_succ]
def dead : AObj := .cells []
theorem code_step {P : Program} {t t2 : TypeId} (hok : appOk P t t2 2 16 = true) {s J D : List AObj} {a b c : AObj} {lo : LV} {x : LV} {d j : Nat} {code : List Ins}
  (hr1 : RowR (s ++ (a :: b :: c :: (J ++ .cells [lo, x] :: D))) 2 j (rowCs (code.take j)) x (s.length + (J.length + 1 + d + 3))) (hr2 : j ≠ 0 → d < D.length) (hjl : j < code.length) (hj : j < 24) :
  ∃ D', D.length < D'.length ∧ (∀ r, aAppendOwn P t t2 x (.imm 2 1 [.int .i64 (nth code j).op, .int .i64 (nth code j).a] r) (s ++ (a :: b :: c :: (J ++ .cells [lo, x] :: D))) = some (.ref 2 (s.length + (J.length + 1 + D.length + 3)) 0 (j + 1) false, s ++ (a :: b :: c :: (J ++ .cells [lo, x] :: D')))) ∧
   ∀ F, RowR (s ++ (a :: b :: c :: (J ++ F :: D'))) 2 (j + 1) (rowCs (code.take (j + 1))) (.ref 2 (s.length + (J.length + 1 + D.length + 3)) 0 (j + 1) false) (s.length + (J.length + 1 + D.length + 3)) := by
 have ha := own_app (P := P) (t := t) (t2 := t2) (by_ := 16) (ds := [.int .i64 (nth code j).op, .int .i64 (nth code j).a]) hok (by omega) (by omega) hr1 (by simp) (by omega)
 have hcs : rowCs (code.take j) ++ [.int .i64 (nth code j).op, .int .i64 (nth code j).a] = rowCs (code.take (j + 1)) := by
  rw [take_succ_nth hjl, rowCs_app, rowCs_cons]; simp
 have hD : ∃ D1 : List AObj, D1.length = D.length ∧ (if j = 0 then s ++ (a :: b :: c :: (J ++ .cells [lo, x] :: D)) else (s ++ (a :: b :: c :: (J ++ .cells [lo, x] :: D))).set (s.length + (J.length + 1 + d + 3)) (.cells [])) = s ++ (a :: b :: c :: (J ++ .cells [lo, x] :: D1)) := by
  by_cases h0 : j = 0
  ·exact ⟨D, rfl, if_pos h0⟩
  ·refine ⟨D.set d (.cells []), by simp, ?_⟩
   rw [if_neg h0, lay_set, lay2_set]
 obtain ⟨D1, hl, hD1⟩ := hD
 refine ⟨D1 ++ [.cells (rowCs (code.take (j + 1)))], by simp [hl], fun r => ?_, fun F => .inr ⟨by omega, ?_, rfl, ?_, ?_⟩⟩
 ·rw [ha r, hD1, hcs]
  have e1 : (s ++ (a :: b :: c :: (J ++ .cells [lo, x] :: D))).length = s.length + (J.length + 1 + D.length + 3) := by simp; omega
  rw [e1]
  simp
 ·rw [take_succ_nth hjl, rowCs_app, rowCs_cons]; simp
 ·rw [lay_get, lay2_get, ← hl]; simp
 ·rw [rowCs_len, List.length_take, sz_ins, Nat.min_eq_left (by omega)]
theorem funs_step {P : Program} {t t2 : TypeId} (hok : appOk P t t2 2 32 = true) {s J D : List AObj} {a b c : AObj} {lo : Int} {x xF : LV} {d dF k : Nat} {code : List Ins} {fs : List Fn_} {ids : List Nat} {fcs : List LV}
  (hf1 : FunsV (s ++ (a :: b :: c :: J)) fs ids fcs) (hf2 : RowR (s ++ (a :: b :: c :: J)) 2 k fcs xF (s.length + (dF + 3))) (hf3 : ids.Nodup) (hf4 : ∀ id ∈ ids, s.length + 3 ≤ id ∧ id < s.length + (J.length + 3) ∧ (k ≠ 0 → id ≠ s.length + (dF + 3)))
  (hr1 : RowR (s ++ (a :: b :: c :: (J ++ .cells [.int .i64 lo, x] :: D))) 2 code.length (rowCs code) x (s.length + (J.length + 1 + d + 3))) (hr2 : code.length ≠ 0 → d < D.length) (hk : k < 4) (hdF : k ≠ 0 → dF < J.length) :
  ∃ J' ids', (∀ r, aAppendOwn P t t2 xF (.imm 2 1 [.int .i64 lo, x] r) (s ++ (a :: b :: c :: (J ++ .cells [.int .i64 lo, x] :: D))) = some (.ref 2 (s.length + (J.length + 1 + D.length + 3)) 0 (k + 1) false, s ++ (a :: b :: c :: J'))) ∧
   (∀ a b c, FunsV (s ++ (a :: b :: c :: J')) (fs ++ [⟨lo, code⟩]) ids' (fcs ++ [.int .i64 lo, x])) ∧ (∀ a b c, RowR (s ++ (a :: b :: c :: J')) 2 (k + 1) (fcs ++ [.int .i64 lo, x]) (.ref 2 (s.length + (J.length + 1 + D.length + 3)) 0 (k + 1) false) (s.length + (J.length + 1 + D.length + 3))) ∧
   ids'.Nodup ∧ (∀ id ∈ ids', s.length + 3 ≤ id ∧ id < s.length + (J'.length + 3) ∧ id ≠ s.length + (J.length + 1 + D.length + 3)) ∧ J.length + 1 + D.length < J'.length := by
 obtain ⟨di, hdi1, hdi2, hrow⟩ : ∃ di, J.length ≤ di ∧ di < J.length + 1 + D.length ∧ ∀ a b c J', (∀ i, J.length < i → i < J.length + 1 + D.length → J'[i]? = (J ++ AObj.cells [.int .i64 lo, x] :: D)[i]?) → RowR (s ++ (a :: b :: c :: J')) 2 code.length (rowCs code) x (s.length + (di + 3)) := by
  by_cases h0 : code.length = 0
  ·refine ⟨J.length, Nat.le_refl _, by omega, fun _ _ _ _ _ => ?_⟩
   rcases hr1 with h | h
   ·exact .inl h
   ·exact absurd h0 h.1
  ·have hd := hr2 h0
   exact ⟨J.length + 1 + d, by omega, by omega, fun a' b' c' J' hJ => hr1.keep fun _ => by rw [lay_get, lay_get]; exact hJ _ (by omega) (by omega)⟩
 have hget : ∀ i, i < J.length → (J ++ AObj.cells [.int .i64 lo, x] :: D)[i]? = J[i]? := fun i hi => List.getElem?_append_left hi
 have hf2' : RowR (s ++ (a :: b :: c :: (J ++ .cells [.int .i64 lo, x] :: D))) 2 k fcs xF (s.length + (dF + 3)) := hf2.keep fun h0 => by rw [lay_get, lay_get, hget _ (hdF h0)]
 have ha := own_app (P := P) (t := t) (t2 := t2) (by_ := 32) (ds := [.int .i64 lo, x]) hok (by omega) (by omega) hf2' (by simp) (by omega)
 obtain ⟨J1, hl, hJ1, hold⟩ : ∃ J1 : List AObj, J1.length = J.length ∧ (if k = 0 then s ++ (a :: b :: c :: (J ++ .cells [.int .i64 lo, x] :: D)) else (s ++ (a :: b :: c :: (J ++ .cells [.int .i64 lo, x] :: D))).set (s.length + (dF + 3)) (.cells [])) = s ++ (a :: b :: c :: (J1 ++ .cells [.int .i64 lo, x] :: D)) ∧ ∀ i, (k ≠ 0 → i ≠ dF) → J1[i]? = J[i]? := by
  by_cases h0 : k = 0
  ·exact ⟨J, rfl, if_pos h0, fun _ _ => rfl⟩
  ·refine ⟨J.set dF (.cells []), by simp, ?_, fun i hi => by rw [List.getElem?_set_ne (fun e => hi h0 e.symm)]⟩
   rw [if_neg h0, lay_set, List.set_append_left _ _ (hdF h0)]
 refine ⟨J1 ++ .cells [.int .i64 lo, x] :: D ++ [.cells (fcs ++ [.int .i64 lo, x])], ids ++ [s.length + (di + 3)], fun r => ?_, fun a' b' c' => ?_, fun a' b' c' => .inr ⟨by omega, by simp, rfl, ?_, ?_⟩, ?_, ?_, ?_⟩
 ·rw [ha r, hJ1]
  have e1 : (s ++ (a :: b :: c :: (J ++ .cells [.int .i64 lo, x] :: D))).length = s.length + (J.length + 1 + D.length + 3) := by simp; omega
  rw [e1]
  simp
 ·refine FunsV.snoc (f := ⟨lo, code⟩) ?_ (hf1.keep fun id hid => ?_)
  ·refine hrow a' b' c' _ fun i h1 h2 => ?_
   obtain ⟨e, rfl⟩ : ∃ e, i = J.length + 1 + e := ⟨i - (J.length + 1), by omega⟩
   rw [List.append_assoc, List.cons_append, lay2_get, ← hl, lay2_get, List.getElem?_append_left (by omega)]
  ·obtain ⟨q1, q2, q3⟩ := hf4 id hid
   refine lay_old q1 ?_
   have hlt : id - (s.length + 3) < J.length := by omega
   rw [List.append_assoc, List.getElem?_append_left (by omega)]
   exact hold _ (fun h0 e => q3 h0 (by omega))
 ·rw [lay_get, ← hl, List.append_assoc, List.cons_append, lay2_get]; simp
 ·rcases hf2 with ⟨q1, q2, _⟩ | ⟨_, _, _, _, q5⟩
  ·subst q1; subst q2; rfl
  ·simp only [List.length_append, q5, List.length_cons, List.length_nil]; omega
 ·rw [List.nodup_append]
  refine ⟨hf3, by simp, fun i hi j hj e => ?_⟩
  simp at hj
  have := hf4 i hi
  omega
 ·intro id hid
  rcases List.mem_append.1 hid with h | h
  ·have := hf4 id h
   simp; omega
  ·simp at h
   simp; omega
 ·simp [hl]; omega
end Go.Hb
namespace Go.Hb
open Go
def turned {α : Type} (g : α → α) (l : List α) (j : Nat) : List α := (l.take j).map g ++ l.drop j
theorem turned_len {α : Type} (g : α → α) (l : List α) (j : Nat) : (turned g l j).length = l.length := by simp [turned]; omega
theorem turned_0 {α : Type} (g : α → α) (l : List α) : turned g l 0 = l := by simp [turned]
theorem turned_all {α : Type} (g : α → α) (l : List α) : turned g l l.length = l.map g := by simp [turned]
theorem turned_nth {α : Type} [Enc α] (g : α → α) {l : List α} {j : Nat} (h : j < l.length) : nth (turned g l j) j = nth l j := by
 rw [nth_eq (by rw [turned_len]; exact h), nth_eq h]
 simp only [turned]
 rw [List.getElem_append_right (by simp; omega)]
 have : ((l.take j).map g).length = j := by simp; omega
 simp only [this, Nat.sub_self, List.getElem_drop, Nat.add_zero]
theorem turned_set {α : Type} [Enc α] (g : α → α) {l : List α} {j : Nat} (h : j < l.length) : (turned g l j).set j (g (nth l j)) = turned g l (j + 1) := by
 have hl : ((l.take j).map g).length = j := by simp; omega
 unfold turned
 rw [List.set_append_right _ _ (by omega), hl, Nat.sub_self, drop_nth h, List.set_cons_zero, take_succ_nth h]
 simp
theorem setAt_row : ∀ (l : List Ins) (j : Nat) (x y : Int), j < l.length → setAt (rowCs l) (j * 2) [.int .i64 x, .int .i64 y] = rowCs (l.set j ⟨x, y⟩)
 | i :: l, 0, x, y, _ => by simp [rowCs_cons, setAt]
 | i :: l, j + 1, x, y, h => by
  have ih := setAt_row l j x y (by simpa using h)
  rw [List.set_cons_succ, rowCs_cons, rowCs_cons, ← ih]
  have e : (j + 1) * 2 = j * 2 + 1 + 1 := by omega
  simp only [setAt, enc_ins, e, List.cons_append, List.nil_append, List.set_cons_succ]
theorem row_two {l : List Ins} {j : Nat} (h : j < l.length) : ((rowCs l).drop (j * 2)).take 2 = [.int .i64 (nth l j).op, .int .i64 (nth l j).a] := by
 have := rowCs_at h
 simpa using this
theorem instrOf_lv (p : Prog) (f : Fn_) (i : Ins) : (instrOf p f i).lv = (let op' := around i.op 27; let m := most p f op'; if asks op' = false then [.int .i64 op', .int .i64 0] else if m = 0 then [.int .i64 12, .int .i64 0] else if op' = 0 then [.int .i64 0, .int .i64 (i.a.tmod 1000)] else [.int .i64 op', .int .i64 (around i.a m)]) := by
 unfold instrOf
 simp only
 split
 ·rfl
 ·split
  ·rfl
  ·split <;> rfl
end Go.Hb
namespace Go.Hb
open Go
def Ret (P : Program) (f : FuncId) (args : List LV) (s : List AObj) (y : LV) : Prop := ∀ v, aCalls P f args s v fun x s' v' => y = x ∧ s = s' ∧ v <+: v'
theorem PureC.ret {P : Program} {f : FuncId} {args : List LV} {s : List AObj} {y : LV} (h : PureC P f args y) : Ret P f args s y := fun v => h s v
theorem callR {P : Program} {f : FuncId} {args : List LV} {s : List AObj} {v : List Nat} {y : LV} {K : LV → List AObj → List Nat → Prop} (h : Ret P f args s y) (k : ∀ v', v <+: v' → K y s v') : aCalls P f args s v K :=
 aCalls_mono (h v) fun x s' v' ⟨e1, e2, e3⟩ => by subst e1; subst e2; exact k v' e3
theorem Ret.of {P : Program} {f : FuncId} {args : List LV} {s : List AObj} {y : LV} (h : ∀ v, aCalls P f args s v (Ends s v y)) : Ret P f args s y := fun v => aCalls_ends (h v)
def fidx {α : Type} (p : α → Bool) (l : List α) : Int := match l.findIdx? p with | some i => (i : Int) | none => -1
theorem fidx_at {α : Type} [Enc α] {p : α → Bool} {l : List α} {k : Nat} (h : k < l.length) (h1 : ∀ j, j < k → p (nth l j) = false) (h2 : p (nth l k) = true) : fidx p l = k := by
 have : l.findIdx? p = some k := by
  rw [List.findIdx?_eq_some_iff_getElem]
  refine ⟨h, by rw [← nth_eq h]; exact h2, fun j hj => ?_⟩
  have := h1 j hj
  rw [nth_eq (by omega)] at this
  simp [this]
 simp [fidx, this]
theorem fidx_none {α : Type} [Enc α] {p : α → Bool} {l : List α} (h1 : ∀ j, j < l.length → p (nth l j) = false) : fidx p l = -1 := by
 have : l.findIdx? p = none := by
  rw [List.findIdx?_eq_none_iff]
  intro x hx
  obtain ⟨j, hj, rfl⟩ := List.getElem_of_mem hx
  have := h1 j hj
  rw [nth_eq hj] at this
  exact this
 simp [fidx, this]
end Go.Hb
namespace Go.Hb
open Go
theorem aCalls_argw {P : Program} {f : FuncId} {args args' : List LV} {s : List AObj} {v : List Nat} {R : LV → List AObj → List Nat → Prop} (hw : Weaks args args') (h : aCalls P f args' s v R) : aCalls P f args s v R :=
 ⟨h.1, fun C vs h1 h2 h3 => h.2 C vs h1 h2 (Weaks.rel hw h3)⟩
end Go.Hb
namespace Go.Hb
theorem zeros_nil (z : List LV) : zeros z 0 = [] := rfl
theorem zeros_succ (z : List LV) (n : Nat) : zeros z (n + 1) = z ++ zeros z n := by simp [zeros, List.replicate_succ]
attribute [simp] zeros_nil zeros_succ
end Go.Hb
end

section
namespace Go.Hb
open Go
def Frz (id : Nat) (cs : List LV) (x y : LV) : Prop := ∀ C s, Ok C s → s[id]? = some (.cells cs) → cs ≠ [] → ∀ v, RelV C x v → RelV (C.freeze id cs.length) y v
theorem frz_le {C : Ctx} {s : List AObj} {id : Nat} {cs : List LV} (h : Ok C s) (hs : s[id]? = some (.cells cs)) (hne : cs ≠ []) : C.le (C.freeze id cs.length) := by
 have hid := (List.getElem?_eq_some_iff.1 hs).1
 have hlim : C.lim (C.ρ id) = 0 := (h.own id (by rw [h.n]; exact hid)).2.1.resolve_left fun hb => by
  rw [hs] at hb; simp at hb; exact hne hb
 exact h.le_freeze _ hlim
theorem Frz.refl (id : Nat) (cs : List LV) (x : LV) : Frz id cs x x := fun C s h hs hne v r => RelV.mono (frz_le h hs hne) x v r
theorem Frz.ref {id : Nat} {cs : List LV} {sz off len : Nat} {fl : Bool} (hb : off + len * sz ≤ cs.length) : Frz id cs (.ref sz id off len fl) (.imm sz len ((cs.drop off).take (len * sz)) .no) := fun C s h hs hne v r => by
 have hle := frz_le h hs hne
 simp only [RelV] at r
 obtain ⟨q0, cap, rfl, q1, q2, q3⟩ := r
 obtain ⟨vs', T, us, ws, p1, p2, p3, p4⟩ := h.obj id _ hs
 have pl := p3.length
 simp only [RelV]
 refine ⟨some ⟨C.ρ id, off, none⟩, cap, rfl, q1, q2, by simp; omega, (by intro h; cases h), fun a ha _ => by cases ha; rfl, fun b o hb => ?_, trivial⟩
 cases hb
 have pv : vs'.size = us.length + ws.length := by have := congrArg List.length p2; simpa using this
 refine RelCs.of_row (C := C.freeze id cs.length) p1 _ ((us.drop off).take (len * sz)) off (((RelVs.mono hle _ _ p3).drop _).take _) (fun u hu => p4 u (List.mem_of_mem_drop (List.mem_of_mem_take hu))) (fun j u hj => ?_) ?_
 ·have hj' := (List.getElem?_eq_some_iff.1 hj).1
  have hlt : j < len * sz := by simp at hj'; omega
  rw [List.getElem?_take_of_lt hlt, List.getElem?_drop] at hj
  have : vs'.toList[off + j]? = some u := by
   rw [p2, List.getElem?_append_left (List.getElem?_eq_some_iff.1 hj).1]; exact hj
  simpa using this
 ·simp only [Ctx.freeze, if_true, List.length_take, List.length_drop]; omega
def Frzs (id : Nat) (cs : List LV) : List LV → List LV → Prop
 | [], [] => True
 | x :: xs, y :: ys => Frz id cs x y ∧ Frzs id cs xs ys
 | _, _ => False
theorem Frzs.length {id : Nat} {cs : List LV} : ∀ {xs ys : List LV}, Frzs id cs xs ys → xs.length = ys.length
 | [], [], _ => rfl
 | [], _ :: _, h => h.elim
 | _ :: _, [], h => h.elim
 | _ :: _, _ :: _, h => by simp [Frzs.length h.2]
theorem Frzs.cells {id : Nat} {cs : List LV} {C : Ctx} {s : List AObj} (h : Ok C s) (hs : s[id]? = some (.cells cs)) (hne : cs ≠ []) {b : Nat} : ∀ {xs ys : List LV} {o : Nat}, Frzs id cs xs ys → RelCs C b xs o → RelCs (C.freeze id cs.length) b ys o
 | [], [], _, _, _ => by simp [RelCs]
 | [], _ :: _, _, k, _ => k.elim
 | _ :: _, [], _, k, _ => k.elim
 | x :: xs, y :: ys, o, k, r => by
  simp only [RelCs] at r ⊢
  obtain ⟨⟨v, e1, e2, e3, e4⟩, e5⟩ := r
  exact ⟨⟨v, e1, Nat.lt_of_lt_of_le e2 ((frz_le h hs hne).lim b), e3, k.1 C s h hs hne v e4⟩, Frzs.cells h hs hne k.2 e5⟩
theorem Frz.imm {id : Nat} {cs : List LV} {sz n : Nat} {xs ys : List LV} {r : Right} (k : Frzs id cs xs ys) : Frz id cs (.imm sz n xs r) (.imm sz n ys .no) := fun C s h hs hne v hr => by
 simp only [RelV] at hr ⊢
 obtain ⟨A, cap, e1, e2, e3, e4, e5, e6, e7, _⟩ := hr
 exact ⟨A, cap, e1, e2, e3, by rw [← k.length]; exact e4, e5, e6, fun b o hA => Frzs.cells h hs hne k (e7 b o hA), trivial⟩
end Go.Hb
namespace Go.Hb
open Go
def Live {α : Type} [Enc α] (D : List AObj) (d : Nat) (l : List α) : Prop := D[d]? = some (.cells (rowCs l)) ∧ l ≠ []
theorem rowCs_ne {α : Type} [Enc α] (hsz : 0 < Enc.sz α) {l : List α} (h : l ≠ []) : rowCs l ≠ [] := by
 intro e
 have := rowCs_len l
 rw [e, List.length_nil] at this
 rcases Nat.mul_eq_zero.1 this.symm with h1 | h1
 ·exact h (List.length_eq_zero_iff.1 h1)
 ·omega
def LiveN (D : List AObj) (d n : Nat) (l : List UInt8) (B : Nat) : Prop := (Live D d l ∧ l.length = n) ∧ n ≤ B
theorem LiveN.eq {D : List AObj} {d n : Nat} {l l' : List UInt8} {B B' : Nat} (h : LiveN D d n l B) (e : l = l') (hb : B ≤ B') : LiveN D d n l' B' := by subst e; exact ⟨h.1, Nat.le_trans h.2 hb⟩
theorem LiveN.box {D : List AObj} {d n : Nat} {l : List UInt8} {B : Nat} (h : LiveN D d n l B) (E : List AObj) : LiveN (D ++ E) d n l B :=
 ⟨⟨⟨by rw [List.getElem?_append_left (List.getElem?_eq_some_iff.1 h.1.1.1).1]; exact h.1.1.1, h.1.1.2⟩, h.1.2⟩, h.2⟩
theorem LiveN.lt {D : List AObj} {d n : Nat} {l : List UInt8} {B : Nat} (h : LiveN D d n l B) : d < D.length := (List.getElem?_eq_some_iff.1 h.1.1.1).1
end Go.Hb
end

section
namespace Go.Hb
open Go
structure Frm where
 func : Int
 pc : Int
 locals : List Int
structure Thr where
 state : Int
 on : Int
 frames : List Frm
 stack : List Int
 code : Int
structure Cor where
 now : Int
 threads : List Thr
 owners : List Int
 counts : List Int
 bufs : List (List Int)
 lockq : List (List Int)
 waitq : List (List Int)
 downq : List (List Int)
 sendq : List (List Int)
 recvq : List (List Int)
structure Evt where
 kind : Int
 thread : Int
 n : Int
structure Req where
 kind : Int
 a : Int
 v : Int
def Frm.lv (f : Frm) : List LV := [.int .i64 f.func, .int .i64 f.pc, row f.locals]
instance : Enc Frm := ⟨3, Frm.lv, ⟨0, 0, []⟩, fun _ => rfl, fun f n => by simp [Frm.lv, undersB, LV.under]⟩
@[simp] theorem sz_frm : Enc.sz Frm = 3 := rfl
@[simp] theorem enc_frm (f : Frm) : Enc.enc f = [.int .i64 f.func, .int .i64 f.pc, row f.locals] := rfl
def Thr.lv (t : Thr) : List LV := [.int .i64 t.state, .int .i64 t.on, row t.frames, row t.stack, .int .i64 t.code]
instance : Enc Thr := ⟨5, Thr.lv, ⟨0, 0, [], [], 0⟩, fun _ => rfl, fun f n => by simp [Thr.lv, undersB, LV.under]⟩
@[simp] theorem sz_thr : Enc.sz Thr = 5 := rfl
@[simp] theorem enc_thr (t : Thr) : Enc.enc t = [.int .i64 t.state, .int .i64 t.on, row t.frames, row t.stack, .int .i64 t.code] := rfl
def Cor.lv (c : Cor) : List LV := [.int .i64 c.now, row c.threads, row c.owners, row c.counts, row c.bufs, row c.lockq, row c.waitq, row c.downq, row c.sendq, row c.recvq]
instance : Enc Cor := ⟨10, Cor.lv, ⟨0, [], [], [], [], [], [], [], [], []⟩, fun _ => rfl, fun f n => by simp [Cor.lv, undersB, LV.under]⟩
def Evt.lv (e : Evt) : List LV := [.int .i64 e.kind, .int .i64 e.thread, .int .i64 e.n]
instance : Enc Evt := ⟨3, Evt.lv, ⟨0, 0, 0⟩, fun _ => rfl, fun _ _ => rfl⟩
@[simp] theorem sz_evt : Enc.sz Evt = 3 := rfl
@[simp] theorem enc_evt (e : Evt) : Enc.enc e = [.int .i64 e.kind, .int .i64 e.thread, .int .i64 e.n] := rfl
def Req.lv (q : Req) : List LV := [.int .i64 q.kind, .int .i64 q.a, .int .i64 q.v]

def keep (n : Int) : Int := if n < -1073741824 then -1073741824 else if 1073741824 < n then 1073741824 else n
def at' {α : Type} [Enc α] (l : List α) (i : Int) : α := nth l i.toNat
def frameOf (p : Prog) (f : Int) : Frm := ⟨f, 0, List.replicate (at' p.funcs f).locals.toNat 0⟩
def thrNew (p : Prog) (f : Int) : Thr := ⟨0, 0, [frameOf p f], [], 0⟩
def thrEnd (c : Int) : Thr := ⟨9, 0, [], [], c⟩
def topF (t : Thr) : Frm := nth t.frames (t.frames.length - 1)
def push (t : Thr) (v : Int) : Thr × Bool := if 16 ≤ t.stack.length then (t, false) else ({ t with stack := t.stack ++ [keep v] }, true)
def pop (t : Thr) : Thr × Int × Bool := if t.stack.length = 0 then (t, 0, false) else ({ t with stack := t.stack.take (t.stack.length - 1) }, nth t.stack (t.stack.length - 1), true)
def enter (p : Prog) (t : Thr) (f : Int) : Thr × Bool := if 8 ≤ t.frames.length then (t, false) else ({ t with frames := t.frames ++ [frameOf p f] }, true)
def leave (t : Thr) : Thr × Bool := ({ t with frames := t.frames.take (t.frames.length - 1) }, decide (0 < t.frames.length - 1))
def fetch (p : Prog) (t : Thr) : Ins × Bool :=
 if ((at' p.funcs (topF t).func).code.length : Int) ≤ (topF t).pc then (⟨0, 0⟩, false) else (at' (at' p.funcs (topF t).func).code (topF t).pc, true)
def jump (t : Thr) (pc : Int) : Thr := { t with frames := t.frames.set (t.frames.length - 1) { topF t with pc := pc } }
def getL (t : Thr) (i : Int) : Int := at' (topF t).locals i
def setL (t : Thr) (i v : Int) : Thr := { t with frames := t.frames.set (t.frames.length - 1) { topF t with locals := (topF t).locals.set i.toNat (keep v) } }

def ends (c : Int) : Thr × Req := (thrEnd c, ⟨1, 0, c⟩)
def pushed (t : Thr) (v : Int) : Thr × Req := if (push t v).2 = true then ((push t v).1, ⟨0, 0, 0⟩) else ends 2
def needs (op : Int) : Nat := if op = 1 ∨ op = 2 ∨ op = 6 ∨ op = 8 ∨ op = 13 ∨ op = 14 ∨ op = 22 ∨ op = 25 then 1 else if op = 3 ∨ op = 4 then 2 else 0
def kindOf (op : Int) : Int :=
 if op = 12 then 2 else if op = 11 then 3 else if op = 13 then 4 else if op = 14 then 5 else if op = 15 then 6 else if op = 16 then 7 else if op = 17 then 8 else if op = 18 then 9 else if op = 19 then 10
 else if op = 20 then 11 else if op = 21 then 12 else if op = 22 then 13 else if op = 23 then 14 else if op = 24 then 15 else if op = 25 then 16 else 0
def popN : Nat → Thr → Thr × List Int
 | 0, t => (t, [])
 | n + 1, t => ((pop (popN n t).1).1, (popN n t).2 ++ [(pop (popN n t).1).2.1])
def act (p : Prog) (out : Thr) (i : Ins) (l : List Int) : Thr × Req :=
 if i.op = 0 then pushed out i.a
 else if i.op = 2 then pushed (push out (nth l 0)).1 (nth l 0)
 else if i.op = 3 then pushed out (nth l 1 + nth l 0)
 else if i.op = 4 then pushed out (nth l 1 - nth l 0)
 else if i.op = 5 then pushed out (getL out i.a)
 else if i.op = 6 then (setL out i.a (nth l 0), ⟨0, 0, 0⟩)
 else if i.op = 7 then (jump out i.a, ⟨0, 0, 0⟩)
 else if i.op = 8 then (if nth l 0 = 0 then (jump out i.a, ⟨0, 0, 0⟩) else (out, ⟨0, 0, 0⟩))
 else if i.op = 9 then (if (enter p out i.a).2 = true then ((enter p out i.a).1, ⟨0, 0, 0⟩) else ends 3)
 else if i.op = 10 then (if (leave out).2 = true then ((leave out).1, ⟨0, 0, 0⟩) else ends 0)
 else if i.op = 26 then ends 0
 else (out, ⟨0, 0, 0⟩)
def vmStep (p : Prog) (t : Thr) : Thr × Req :=
 let f := fetch p t
 if f.2 = false then ends 6
 else if t.stack.length < needs f.1.op then ends 1
 else
  let x := popN (needs f.1.op) (jump t ((topF t).pc + 1))
  if 0 < kindOf f.1.op then (x.1, ⟨kindOf f.1.op, f.1.a, if 0 < needs f.1.op then nth x.2 0 else 0⟩) else act p x.1 f.1 x.2
def thrTell : Thr → List Int → Thr × Bool
 | t, [] => (t, true)
 | t, v :: l => if (push t v).2 = true then thrTell (push t v).1 l else (thrEnd 2, false)

def lockC (c : Cor) (m t : Int) : Cor × Bool :=
 if 0 ≤ at' c.owners m then ({ c with lockq := c.lockq.set m.toNat (at' c.lockq m ++ [t]) }, false) else ({ c with owners := c.owners.set m.toNat t }, true)
def unlockC (c : Cor) (m t : Int) : Cor × Int × Int :=
 if at' c.owners m ≠ t then (c, -1, 10)
 else if 0 < (at' c.lockq m).length then ({ c with owners := c.owners.set m.toNat (nth (at' c.lockq m) 0), lockq := c.lockq.set m.toNat ((at' c.lockq m).drop 1) }, nth (at' c.lockq m) 0, 0)
 else ({ c with owners := c.owners.set m.toNat (-1) }, -1, 0)
def waitC (c : Cor) (cond m t : Int) : Cor × Int × Int :=
 if (unlockC c m t).2.2 ≠ 0 then (c, (unlockC c m t).2.1, (unlockC c m t).2.2)
 else ({ (unlockC c m t).1 with waitq := (unlockC c m t).1.waitq.set cond.toNat (at' (unlockC c m t).1.waitq cond ++ [t]) }, (unlockC c m t).2.1, (unlockC c m t).2.2)
def signalC (c : Cor) (cond m : Int) : Cor × Int × Bool :=
 if (at' c.waitq cond).length = 0 then (c, -1, false)
 else
  let x := lockC { c with waitq := c.waitq.set cond.toNat ((at' c.waitq cond).drop 1) } m (nth (at' c.waitq cond) 0)
  (x.1, nth (at' c.waitq cond) 0, x.2)
def downC (c : Cor) (s t : Int) : Cor × Bool :=
 if at' c.counts s = 0 then ({ c with downq := c.downq.set s.toNat (at' c.downq s ++ [t]) }, false) else ({ c with counts := c.counts.set s.toNat (at' c.counts s - 1) }, true)
def upC (c : Cor) (s : Int) : Cor × Int :=
 if (at' c.downq s).length = 0 then (if at' c.counts s < 1073741824 then ({ c with counts := c.counts.set s.toNat (at' c.counts s + 1) }, -1) else (c, -1))
 else ({ c with downq := c.downq.set s.toNat ((at' c.downq s).drop 1) }, nth (at' c.downq s) 0)
def cancelC (c : Cor) (t : Int) : Cor := { c with recvq := c.recvq.map fun l => l.filter fun x => decide (x ≠ t) }
def sendC (c : Cor) (ch room t v : Int) : Cor × Int × Bool :=
 if 0 < (at' c.recvq ch).length then (cancelC c (nth (at' c.recvq ch) 0), nth (at' c.recvq ch) 0, true)
 else if ((at' c.bufs ch).length : Int) < room then ({ c with bufs := c.bufs.set ch.toNat (at' c.bufs ch ++ [v]) }, -1, true)
 else ({ c with sendq := c.sendq.set ch.toNat (at' c.sendq ch ++ [t, v]) }, -1, false)
def readyC (c : Cor) (ch : Int) : Bool := decide (0 < (at' c.bufs ch).length) || decide (0 < (at' c.sendq ch).length)
def recvC (c : Cor) (ch t : Int) : Cor × Int × Int × Bool :=
 if 0 < (at' c.bufs ch).length then
  (if 0 < (at' c.sendq ch).length then
   ({ c with bufs := c.bufs.set ch.toNat ((at' c.bufs ch).drop 1 ++ [nth (at' c.sendq ch) 1]), sendq := c.sendq.set ch.toNat ((at' c.sendq ch).drop 2) }, nth (at' c.bufs ch) 0, nth (at' c.sendq ch) 0, true)
  else ({ c with bufs := c.bufs.set ch.toNat ((at' c.bufs ch).drop 1) }, nth (at' c.bufs ch) 0, -1, true))
 else if 0 < (at' c.sendq ch).length then ({ c with sendq := c.sendq.set ch.toNat ((at' c.sendq ch).drop 2) }, nth (at' c.sendq ch) 1, nth (at' c.sendq ch) 0, true)
 else ({ c with recvq := c.recvq.set ch.toNat (at' c.recvq ch ++ [t]) }, 0, -1, false)
def idx (l : List Int) (x : Int) : Int := match l.findIdx? (fun y => decide (y = x)) with | some i => (i : Int) | none => -1
def waitAll (q : List (List Int)) (l : List Int) (t : Int) : List (List Int) := l.foldl (fun q ch => q.set ch.toNat (at' q ch ++ [t])) q
def selectC (c : Cor) (l : List Int) (t : Int) : Cor × Int × Int × Int × Bool :=
 match l.findIdx? (readyC c) with
 | some i => ((recvC c (nth l i) t).1, i, (recvC c (nth l i) t).2.1, (recvC c (nth l i) t).2.2.1, true)
 | none => ({ c with recvq := waitAll c.recvq l t }, -1, 0, -1, false)

structure Xs where
 p : Prog
 c : Cor
 t : Int
 seen : List Evt
 woken : List Int
def Xs.lv (x : Xs) : List LV := x.p.lv ++ x.c.lv ++ [.int .i64 x.t, row x.seen, row x.woken]
def coreNew (p : Prog) : Cor :=
 ⟨0, [thrNew p 0], List.replicate p.mutexes.toNat (-1), p.semas, List.replicate p.chans.length [], List.replicate p.mutexes.toNat [], List.replicate p.conds.length [], List.replicate p.semas.length [], List.replicate p.chans.length [], List.replicate p.chans.length []⟩
def withT (c : Cor) (t : Int) (x : Thr) : Cor := { c with threads := c.threads.set t.toNat x }
def seeX (x : Xs) (k t n : Int) : Xs := { x with seen := x.seen ++ [⟨k, t, n⟩] }
def restX (x : Xs) (t state on : Int) : Xs := { x with c := withT x.c t { at' x.c.threads t with state := state, on := on } }
mutual
def endX : Nat → Xs → Int → Int → Xs
 | 0, x, _, _ => x
 | n + 1, x, t, code => endL n code t (List.range x.c.threads.length) (seeX { x with c := withT x.c t (thrEnd code) } 2 t code)
def endL : Nat → Int → Int → List Nat → Xs → Xs
 | _, _, _, [], x => x
 | n, code, t, k :: ks, x => endL n code t ks (if (nth x.c.threads k).state = 2 ∧ (nth x.c.threads k).on = t then wakeX n x k [code] else x)
def tellX : Nat → Xs → Int → List Int → Xs
 | n, x, t, l => if (thrTell (at' x.c.threads t) l).2 = true then { x with c := withT x.c t (thrTell (at' x.c.threads t) l).1 } else endX n x t 2
def wakeX : Nat → Xs → Int → List Int → Xs
 | n, x, t, l => if t < 0 then x else tellX n (restX { x with woken := x.woken ++ [t] } t 0 0) t l
end
end Go.Hb
end

section
namespace Go.Hb
open Go
def fu : Nat := 40
def endF (x : Xs) (t code : Int) : Xs := endX fu x t code
def tellF (x : Xs) (t : Int) (l : List Int) : Xs := tellX fu x t l
def wakeF (x : Xs) (t : Int) (l : List Int) : Xs := wakeX fu x t l
def spawnX (x : Xs) (f : Int) : Xs :=
 if x.p.threads ≤ x.c.threads.length then tellF (seeX x 1 x.t (-1)) x.t [-1]
 else tellF (seeX { x with c := { x.c with threads := x.c.threads ++ [thrNew x.p f] }, woken := x.woken ++ [(x.c.threads.length : Int)] } 1 x.t x.c.threads.length) x.t [(x.c.threads.length : Int)]
def joinX (x : Xs) (v : Int) : Xs :=
 if v < 0 ∨ (x.c.threads.length : Int) ≤ v ∨ v = x.t then endF x x.t 5
 else if (at' x.c.threads v).state = 9 then tellF x x.t [(at' x.c.threads v).code]
 else restX x x.t 2 v
def sigStep (m : Int) (a : Int) (x : Xs) : Xs :=
 if (signalC x.c a m).2.2 = true then wakeF { x with c := (signalC x.c a m).1 } (signalC x.c a m).2.1 []
 else restX { x with c := (signalC x.c a m).1 } (signalC x.c a m).2.1 3 m
def sigX (kind m a : Int) : Nat → Xs → Xs
 | 0, x => x
 | n + 1, x => if (at' x.c.waitq a).length = 0 then x else if kind = 9 then sigStep m a x else sigX kind m a n (sigStep m a x)
def mutexX (x : Xs) (kind a : Int) : Xs :=
 if kind = 6 then (if (lockC x.c a x.t).2 = true then { x with c := (lockC x.c a x.t).1 } else restX { x with c := (lockC x.c a x.t).1 } x.t 3 a)
 else if kind = 7 then (if (unlockC x.c a x.t).2.2 = 0 then wakeF { x with c := (unlockC x.c a x.t).1 } (unlockC x.c a x.t).2.1 [] else endF x x.t 4)
 else if kind = 8 then
  (if (waitC x.c a (at' x.p.conds a) x.t).2.2 = 0 then restX (wakeF { x with c := (waitC x.c a (at' x.p.conds a) x.t).1 } (waitC x.c a (at' x.p.conds a) x.t).2.1 []) x.t 4 a
   else endF x x.t 4)
 else sigX kind (at' x.p.conds a) a (at' x.c.waitq a).length x
def semaX (x : Xs) (kind a : Int) : Xs :=
 if kind = 11 then (if (downC x.c a x.t).2 = true then { x with c := (downC x.c a x.t).1 } else restX { x with c := (downC x.c a x.t).1 } x.t 5 a)
 else wakeF { x with c := (upC x.c a).1 } (upC x.c a).2 []
def chanX (x : Xs) (q : Req) : Xs :=
 if q.kind = 13 then
  let r := sendC x.c q.a (at' x.p.chans q.a) x.t q.v
  let y : Xs := { x with c := r.1 }
  if r.2.2 = false then restX y x.t 6 q.a
  else if r.2.1 < 0 then y
  else if (at' r.1.threads r.2.1).state = 8 then wakeF y r.2.1 [q.v, idx (at' x.p.choices (at' r.1.threads r.2.1).on) q.a]
  else wakeF y r.2.1 [q.v]
 else if q.kind = 14 then
  let r := recvC x.c q.a x.t
  let y : Xs := { x with c := r.1 }
  if r.2.2.2 = false then restX y x.t 7 q.a else wakeF (tellF y x.t [r.2.1]) r.2.2.1 []
 else
  let r := selectC x.c (at' x.p.choices q.a) x.t
  let y : Xs := { x with c := r.1 }
  if r.2.2.2.2 = false then restX y x.t 8 q.a else wakeF (tellF y x.t [r.2.2.1, r.2.1]) r.2.2.2.1 []
def meetX (x : Xs) (q : Req) : Xs :=
 if q.kind = 1 then endF x x.t q.v
 else if q.kind = 3 then spawnX x q.a
 else if q.kind = 4 then (if x.c.now < keep (x.c.now + q.v) then restX x x.t 1 (keep (x.c.now + q.v)) else x)
 else if q.kind = 5 then joinX x q.v
 else if q.kind = 6 ∨ q.kind = 7 ∨ q.kind = 8 ∨ q.kind = 9 ∨ q.kind = 10 then mutexX x q.kind q.a
 else if q.kind = 11 ∨ q.kind = 12 then semaX x q.kind q.a
 else if q.kind = 13 ∨ q.kind = 14 ∨ q.kind = 15 then chanX x q
 else if q.kind = 16 then seeX x 0 x.t q.v
 else x
def stepX (p : Prog) (c : Cor) (t : Int) : Xs :=
 meetX ⟨p, withT c t (vmStep p (at' c.threads t)).1, t, [], []⟩ (vmStep p (at' c.threads t)).2
def wokenOf (x : Xs) (t : Int) : List Int := x.woken.filter fun k => decide (k ≠ t ∧ (at' x.c.threads k).state = 0)
def stepC (p : Prog) (c : Cor) (t : Int) : Cor × List Evt × List Int × Int :=
 if t < 0 ∨ (c.threads.length : Int) ≤ t then (c, [], [], 1)
 else if (at' c.threads t).state ≠ 0 then (c, [], [], 10)
 else ((stepX p c t).c, (stepX p c t).seen, wokenOf (stepX p c t) t, 0)
def dueStep (c : Cor) (f : Int) (t : Nat) : Int :=
 if (nth c.threads t).state = 1 ∧ (nth c.threads t).on ≤ c.now ∧ (f < 0 ∨ (nth c.threads t).on < (at' c.threads f).on) then t else f
def dueOf (c : Cor) : Int := (List.range c.threads.length).foldl (dueStep c) (-1)
def tickL : Nat → Cor → List Int → Cor × List Int
 | 0, c, w => (c, w)
 | n + 1, c, w => if dueOf c < 0 then (c, w) else tickL n (withT c (dueOf c) { at' c.threads (dueOf c) with state := 0, on := 0 }) (w ++ [dueOf c])
def tickC (c : Cor) (n : Int) : Cor × List Int :=
 tickL (c.threads.length + 1) (if 0 < n then { c with now := keep (c.now + (if 1073741824 < n then 1073741824 else n)) } else c) []
def inC (c : Cor) (s : Int) : List Int := ((List.range c.threads.length).filter fun (t : Nat) => decide ((nth c.threads t).state = s)).map fun (t : Nat) => (t : Int)
def nextStep (c : Cor) (a : Int × Nat) (t : Int) : Int × Nat := (if a.2 = 0 ∨ (at' c.threads t).on < a.1 then (at' c.threads t).on else a.1, a.2 + 1)
def nextC (c : Cor) : Int × Bool := (((inC c 1).foldl (nextStep c) (0, 0)).1, decide (0 < (inC c 1).length))
def pickC (p : Prog) (c : Cor) (k : Int) : Cor × List Evt :=
 if (inC c 0).length = 0 then (if (nextC c).2 = true then ((tickC c ((nextC c).1 - c.now)).1, []) else (c, []))
 else ((stepC p c (at' (inC c 0) (around k (inC c 0).length))).1, (stepC p c (at' (inC c 0) (around k (inC c 0).length))).2.1)
def playC (p : Prog) (c : Cor) (l : List Int) : Cor × List Evt :=
 l.foldl (fun a k => ((pickC p a.1 k).1, a.2 ++ (pickC p a.1 k).2)) (c, [])
end Go.Hb
end

section
namespace Go.Hb
open Go
theorem ddStep_nodup {acc : List Int} {x : Int} (h : acc.Nodup) : (ddStep acc x).Nodup := by
 unfold ddStep
 split
 ·exact h
 ·rename_i h1
  rw [List.nodup_append]
  refine ⟨h, by simp, fun a ha b hb e => h1 ?_⟩
  simp at hb; subst hb; subst e
  exact List.any_eq_true.2 ⟨a, ha, by simp⟩
theorem ddStep_mem {acc : List Int} {x y : Int} (h : y ∈ ddStep acc x) : y ∈ acc ∨ y = x := by
 unfold ddStep at h
 split at h
 ·exact .inl h
 ·rcases List.mem_append.1 h with h | h
  ·exact .inl h
  ·exact .inr (by simpa using h)
theorem foldl_dd : ∀ (l acc : List Int), acc.Nodup → (l.foldl ddStep acc).Nodup ∧ ∀ y ∈ l.foldl ddStep acc, y ∈ acc ∨ y ∈ l
 | [], acc, h => ⟨h, fun y hy => .inl hy⟩
 | x :: l, acc, h => by
  obtain ⟨h1, h2⟩ := foldl_dd l (ddStep acc x) (ddStep_nodup h)
  refine ⟨h1, fun y hy => ?_⟩
  rcases h2 y hy with h3 | h3
  ·rcases ddStep_mem h3 with h4 | h4
   ·exact .inl h4
   ·exact .inr (by simp [h4])
  ·exact .inr (by simp [h3])
theorem dd_nodup (l : List Int) : (dd l).Nodup := (foldl_dd l [] (by simp)).1
theorem dd_mem {l : List Int} {y : Int} (h : y ∈ dd l) : y ∈ l := by
 rcases (foldl_dd l [] (by simp)).2 y h with h | h
 ·simp at h
 ·exact h
theorem most_eq {p q : Prog} {f g : Fn_} (h1 : p.funcs.length = q.funcs.length) (h2 : p.mutexes = q.mutexes) (h3 : p.conds = q.conds) (h4 : p.semas = q.semas) (h5 : p.chans = q.chans) (h6 : p.choices = q.choices) (h7 : f.locals = g.locals) (h8 : f.code.length = g.code.length) (op : Int) : most p f op = most q g op := by
 unfold most
 rw [h1, h2, h3, h4, h5, h6, h7, h8]
theorem most_pos {p : Prog} {f : Fn_} {op : Int} (h1 : 0 ≤ p.mutexes) (h2 : 0 ≤ f.locals) : 0 ≤ most p f op := by
 unfold most mostL
 repeat' split
 all_goals omega
theorem mayI_instrOf {p q : Prog} {f g : Fn_} (i : Ins) (h1 : 0 ≤ p.mutexes) (h2 : 0 ≤ f.locals) (h : ∀ op, most q g op = most p f op) : mayI q g (instrOf p f i) = true := by
 have hop := around_in (n := i.op) (m := 27) (by omega)
 unfold instrOf
 simp only
 split
 ·rename_i h3
  simp [mayI, h3]; omega
 ·rename_i h3
  split
  ·rename_i h4
   simp [mayI, asks]
  ·rename_i h4
   split
   ·rename_i h5
    have e1 : most q g 0 = 1073741825 := by simp [most, mostL]
    have := Int.tmod_lt_of_pos i.a (b := 1000) (by omega)
    have := Int.lt_tmod_of_pos i.a (b := 1000) (by omega)
    simp only [mayI, asks, e1]
    by_cases h6 : i.a.tmod 1000 < 0
    ·simp [h6]; omega
    ·simp [h6]; omega
   ·rename_i h5
    have hm := most_pos (op := around i.op 27) h1 h2
    have ha := around_in (n := i.a) (m := most p f (around i.op 27)) (by omega)
    simp only [Bool.not_eq_false] at h3
    simp only [mayI, h3, h, if_true]
    simp [h5]; omega
theorem things_allTo {l : List Int} {to to' : Int} (h : to ≤ to') : allTo (things l to) to' = true := by
 unfold allTo
 rw [List.all_eq_true]
 intro x hx
 have := things_in hx
 simp; omega
theorem good_may (p : Prog) : mayP (good p) = true := by
 have hmu := around_in (n := p.mutexes) (m := 4) (by omega)
 have hth := around_in (n := p.threads) (m := 8) (by omega)
 have l1 := things_len p.conds (around p.mutexes 4 - 1)
 have l2 := things_len p.semas 3
 have l3 := things_len p.chans 3
 have l4 : (goodChs (things p.chans 3).length (p.choices.take 4)).length ≤ 4 := by
  unfold goodChs
  refine Nat.le_trans (List.length_filter_le _ _) ?_
  simp; omega
 have l5 : 1 ≤ (goodFs p.funcs).length ∧ (goodFs p.funcs).length ≤ 4 := by
  unfold goodFs
  split
  ·simp
  ·simp; omega
 have hc : ((good p).choices.all (mayCh (good p))) = true := by
  rw [List.all_eq_true]
  intro l hl
  have hl : l ∈ goodChs (things p.chans 3).length (p.choices.take 4) := hl
  unfold goodChs at hl
  obtain ⟨hl, h0⟩ := List.mem_filter.1 hl
  obtain ⟨l0, _, rfl⟩ := List.mem_map.1 hl
  have h0 : 0 < (goodCh (things p.chans 3).length l0).length := by simpa using h0
  have k1 := dd_len (things l0 ((things p.chans 3).length - 1))
  have k2 := things_len l0 ((things p.chans 3).length - 1)
  have e1 : (good p).chans = things p.chans 3 := rfl
  unfold mayCh
  rw [e1]
  have a1 : allTo (goodCh (things p.chans 3).length l0) ((things p.chans 3).length - 1) = true := by
   unfold allTo
   rw [List.all_eq_true]
   intro x hx
   have := things_in (dd_mem hx)
   simp; omega
  have a2 : (goodCh (things p.chans 3).length l0).Nodup := dd_nodup _
  have a3 : (goodCh (things p.chans 3).length l0).length ≤ 8 := by unfold goodCh; omega
  simp only [a1, a2, a3, Bool.true_and, decide_true, Bool.and_true, decide_eq_true_eq]
  omega
 have hf : ((good p).funcs.all (mayF (good p))) = true := by
  rw [List.all_eq_true]
  intro f hf
  obtain ⟨g, hg, rfl⟩ := List.mem_map.1 hf
  have hg : g ∈ goodFs p.funcs := hg
  have hg2 : 0 ≤ g.locals ∧ g.locals ≤ 8 ∧ g.code.length ≤ 64 := by
   unfold goodFs at hg
   split at hg
   ·simp at hg; subst hg; simp
   ·obtain ⟨g0, _, rfl⟩ := List.mem_map.1 hg
    have := around_in (n := g0.locals) (m := 4) (by omega)
    simp only [goodF, List.length_take]; omega
  have hi : (g.code.map (instrOf (good0 p) g)).all (mayI (good p) ⟨g.locals, g.code.map (instrOf (good0 p) g)⟩) = true := by
   rw [List.all_eq_true]
   intro i hi
   obtain ⟨j, _, rfl⟩ := List.mem_map.1 hi
   refine mayI_instrOf j ?_ hg2.1 fun op => ?_
   ·exact hmu.1
   ·exact most_eq (p := good p) (q := good0 p) (f := ⟨g.locals, g.code.map (instrOf (good0 p) g)⟩) (g := g) (by simp [good]) rfl rfl rfl rfl rfl rfl (by simp) op
  unfold mayF
  rw [hi]
  simp; omega
 have e1 : (good p).funcs.length = (goodFs p.funcs).length := by show ((goodFs p.funcs).map _).length = _; simp
 have t1 : allTo (things p.conds (around p.mutexes 4 - 1)) (around p.mutexes 4 - 1) = true := things_allTo (by omega)
 have t2 : allTo (things p.semas 3) 100 = true := things_allTo (by omega)
 have t3 : allTo (things p.chans 3) 8 = true := things_allTo (by omega)
 unfold mayP
 rw [hc, hf, e1]
 have e2 : (good p).mutexes = around p.mutexes 4 := rfl
 have e3 : (good p).conds = things p.conds (around p.mutexes 4 - 1) := rfl
 have e4 : (good p).semas = things p.semas 3 := rfl
 have e5 : (good p).chans = things p.chans 3 := rfl
 have e6 : (good p).choices = goodChs (things p.chans 3).length (p.choices.take 4) := rfl
 have e7 : (good p).threads = 1 + around p.threads 8 := rfl
 rw [e2, e3, e4, e5, e6, e7]
 simp only [t1, t2, t3, Bool.and_true, Bool.and_eq_true, decide_eq_true_eq]
 omega
end Go.Hb
end

