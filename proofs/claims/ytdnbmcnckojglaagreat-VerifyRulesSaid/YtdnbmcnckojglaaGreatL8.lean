/-
  A layer for reasoning about the program's calls, and contracts of its functions (L8). CONDITIONS: none; each theorem bears its own.
-/
import Derived.Test.YtdnbmcnckojglaaGreatL7
set_option linter.unusedVariables false
set_option linter.unusedSimpArgs false
section
namespace Go.Hb
open Go
def FrmsV (S : List AObj) : List Frm → List Nat → List LV → Prop
 | [], [], r => r = []
 | f :: fs, id :: ids, r => ∃ x r', r = .int .i64 f.func :: .int .i64 f.pc :: x :: r' ∧ RowR S 1 f.locals.length (rowCs f.locals) x id ∧ FrmsV S fs ids r'
 | _, _, _ => False
theorem FrmsV.keep {S S' : List AObj} : ∀ {fs : List Frm} {ids : List Nat} {r : List LV}, FrmsV S fs ids r → (∀ id ∈ ids, S'[id]? = S[id]?) → FrmsV S' fs ids r
 | [], [], _, h, _ => h
 | [], _ :: _, _, h, _ => h.elim
 | _ :: _, [], _, h, _ => h.elim
 | f :: fs, id :: ids, r, h, hk => by
  obtain ⟨x, r', rfl, h1, h2⟩ := h
  exact ⟨x, r', rfl, h1.keep fun _ => hk id (by simp), h2.keep fun i hi => hk i (by simp [hi])⟩
theorem FrmsV.snoc {S : List AObj} {f : Frm} {id : Nat} {x : LV} (hf : RowR S 1 f.locals.length (rowCs f.locals) x id) : ∀ {fs : List Frm} {ids : List Nat} {r : List LV}, FrmsV S fs ids r → FrmsV S (fs ++ [f]) (ids ++ [id]) (r ++ [.int .i64 f.func, .int .i64 f.pc, x])
 | [], [], r, h => by simp only [FrmsV] at h; subst h; exact ⟨x, [], rfl, hf, rfl⟩
 | [], _ :: _, _, h => h.elim
 | _ :: _, [], _, h => h.elim
 | g :: fs, i :: ids, r, h => by
  obtain ⟨y, r', rfl, h1, h2⟩ := h
  exact ⟨y, _, rfl, h1, FrmsV.snoc hf h2⟩
theorem FrmsV.len {S : List AObj} : ∀ {fs : List Frm} {ids : List Nat} {r : List LV}, FrmsV S fs ids r → r.length = fs.length * 3 ∧ ids.length = fs.length
 | [], [], _, h => by simp only [FrmsV] at h; subst h; exact ⟨rfl, rfl⟩
 | [], _ :: _, _, h => h.elim
 | _ :: _, [], _, h => h.elim
 | f :: fs, id :: ids, r, h => by
  obtain ⟨x, r', rfl, h1, h2⟩ := h
  have := FrmsV.len h2
  simp; omega
theorem FrmsV.get {S : List AObj} : ∀ {fs : List Frm} {ids : List Nat} {r : List LV} (i : Nat), FrmsV S fs ids r → i < fs.length →
  ∃ x id, ids[i]? = some id ∧ (r.drop (i * 3)).take 3 = [.int .i64 (nth fs i).func, .int .i64 (nth fs i).pc, x] ∧ RowR S 1 (nth fs i).locals.length (rowCs (nth fs i).locals) x id
 | [], _, _, _, _, hi => by simp at hi
 | f :: fs, [], _, _, h, _ => h.elim
 | f :: fs, id :: ids, r, 0, h, _ => by
  obtain ⟨x, r', rfl, h1, h2⟩ := h
  exact ⟨x, id, rfl, rfl, h1⟩
 | f :: fs, id :: ids, r, i + 1, h, hi => by
  obtain ⟨x, r', rfl, h1, h2⟩ := h
  obtain ⟨y, id', q1, q2, q3⟩ := FrmsV.get i h2 (by simpa using hi)
  have hn : nth (f :: fs) (i + 1) = nth fs i := by simp [nth]
  rw [hn]
  exact ⟨y, id', by simpa using q1, by simpa [Nat.add_mul] using q2, q3⟩
theorem FrmsV.pc {S : List AObj} {pc : Int} : ∀ {fs : List Frm} {ids : List Nat} {r : List LV} (i : Nat), FrmsV S fs ids r → i < fs.length → FrmsV S (fs.set i { nth fs i with pc := pc }) ids (r.set (i * 3 + 1) (.int .i64 pc))
 | [], _, _, _, _, hi => by simp at hi
 | f :: fs, [], _, _, h, _ => h.elim
 | f :: fs, id :: ids, r, 0, h, _ => by
  obtain ⟨x, r', rfl, h1, h2⟩ := h
  exact ⟨x, r', rfl, h1, h2⟩
 | f :: fs, id :: ids, r, i + 1, h, hi => by
  obtain ⟨x, r', rfl, h1, h2⟩ := h
  have hn : nth (f :: fs) (i + 1) = nth fs i := by simp [nth]
  have := FrmsV.pc (pc := pc) i h2 (by simpa using hi)
  rw [hn]
  refine ⟨x, r'.set (i * 3 + 1) (.int .i64 pc), ?_, h1, this⟩
  simp [Nat.add_mul, show i * 3 + 3 + 1 = i * 3 + 1 + 1 + 1 + 1 by omega]
theorem FrmsV.put {S S' : List AObj} {c : List Int} : ∀ {fs : List Frm} {ids : List Nat} {r : List LV} (i : Nat) (id : Nat), FrmsV S fs ids r → ids[i]? = some id → ids.Nodup → (∀ j ∈ ids, j ≠ id → S'[j]? = S[j]?) → c.length = (nth fs i).locals.length → (c ≠ [] → S'[id]? = some (.cells (rowCs c))) →
  FrmsV S' (fs.set i { nth fs i with locals := c }) ids r
 | [], [], _, i, id, h, hi, _, _, _, _ => by simp at hi
 | [], _ :: _, _, _, _, h, _, _, _, _, _ => h.elim
 | _ :: _, [], _, _, _, h, _, _, _, _, _ => h.elim
 | f :: fs, j :: ids, r, 0, id, h, hi, hnd, hk, hc, hid => by
  obtain ⟨x, r', rfl, h1, h2⟩ := h
  simp at hi; subst hi
  have hn : nth (f :: fs) 0 = f := rfl
  rw [hn] at hc
  refine ⟨x, r', rfl, ?_, h2.keep fun i hi => hk i (by simp [hi]) (by rintro rfl; simp at hnd; exact hnd.1 hi)⟩
  show RowR S' 1 c.length (rowCs c) x j
  rcases h1 with ⟨h1, h2, h3⟩ | ⟨h1, h2, h3, h4, h5⟩
  ·have : c = [] := List.length_eq_zero_iff.1 (by omega)
   subst this
   exact .inl ⟨rfl, rfl, h3⟩
  ·have hne : c ≠ [] := by intro e; subst e; simp at hc; omega
   refine .inr ⟨by rw [hc]; exact h1, ?_, by rw [hc]; exact h3, hid hne, rowCs_len c⟩
   intro e
   have := rowCs_len c
   rw [e, sz_int, List.length_nil] at this
   exact hne (List.length_eq_zero_iff.1 (by omega))
 | f :: fs, j :: ids, r, i + 1, id, h, hi, hnd, hk, hc, hid => by
  obtain ⟨x, r', rfl, h1, h2⟩ := h
  have hn : nth (f :: fs) (i + 1) = nth fs i := by simp [nth]
  simp only [List.nodup_cons] at hnd
  have hi' : ids[i]? = some id := by simpa using hi
  have hne : j ≠ id := by rintro rfl; exact hnd.1 (List.mem_of_getElem? hi')
  have := FrmsV.put (S' := S') (c := c) i id h2 hi' hnd.2 (fun k hk' => hk k (by simp [hk'])) (by rw [hn] at hc; exact hc) hid
  refine ⟨x, r', rfl, h1.keep fun _ => hk j (by simp) hne, ?_⟩
  rw [hn]; exact this
theorem RowR.deep {S : List AObj} {n id : Nat} {α : Type} [Enc α] {l : List α} {cs : List LV} {x : LV} (h : RowR S (Enc.sz α) l.length cs x id) (hn : n ≤ id) (hd : DeepVs S n cs (rowCs l)) : DeepV S n x (row l) := by
 rcases h with ⟨q1, q2, rfl⟩ | ⟨q1, q2, rfl, q4, q5⟩
 ·have : l = [] := List.length_eq_zero_iff.1 q1
  subst this
  exact .weak _ _ _ (.keep _ rfl) Weak.nilrow
 ·refine .weak _ _ _ (.ref (Enc.sz α) id 0 l.length false cs (rowCs l) hn q4 q2 (by omega) ?_) (Weak.refl _)
  have : (List.take (l.length * Enc.sz α) (List.drop 0 cs)) = cs := by rw [List.drop_zero, List.take_of_length_le (by omega)]
  rw [this]
  exact hd
theorem keepAll {S : List AObj} {n : Nat} : ∀ (l : List LV), undersB n l = true → DeepVs S n l l
 | [], _ => .nil
 | x :: xs, h => by
  simp only [undersB, Bool.and_eq_true] at h
  exact .cons _ _ _ _ (.keep _ h.1) (keepAll xs h.2)
theorem RowR.deep0 {S : List AObj} {n id : Nat} {α : Type} [Enc α] {l : List α} {x : LV} (h : RowR S (Enc.sz α) l.length (rowCs l) x id) (hn : n ≤ id) : DeepV S n x (row l) := h.deep hn (keepAll _ (rowCs_und n l))
theorem FrmsV.deep {S : List AObj} {n : Nat} : ∀ {fs : List Frm} {ids : List Nat} {r : List LV}, FrmsV S fs ids r → (∀ id ∈ ids, n ≤ id) → DeepVs S n r (rowCs fs)
 | [], [], _, h, _ => by simp only [FrmsV] at h; subst h; exact .nil
 | [], _ :: _, _, h, _ => h.elim
 | _ :: _, [], _, h, _ => h.elim
 | f :: fs, id :: ids, r, h, hn => by
  obtain ⟨x, r', rfl, h1, h2⟩ := h
  rw [rowCs_cons]
  exact .cons _ _ _ _ (.keep _ (by simp)) (.cons _ _ _ _ (.keep _ (by simp)) (.cons _ _ _ _ (RowR.deep0 (α := Int) h1 (hn id (by simp))) (FrmsV.deep h2 fun i hi => hn i (by simp [hi]))))
structure ThrO (S : List AObj) (b : Nat) (t : Thr) (y : LV) (ids : List Nat) (r : List LV) (xF xS : LV) (iF iS : Nat) : Prop where
 eq : y = .agg [.int .i64 t.state, .int .i64 t.on, xF, xS, .int .i64 t.code]
 frames : RowR S 3 t.frames.length r xF iF
 fr : FrmsV S t.frames ids r
 stack : RowR S 1 t.stack.length (rowCs t.stack) xS iS
 nodup : ids.Nodup
 ids : ∀ id ∈ ids, b ≤ id ∧ id < S.length ∧ id ≠ iF ∧ id ≠ iS
 at_ : b ≤ iF ∧ b ≤ iS ∧ iF ≠ iS
theorem ThrO.deep {S : List AObj} {b : Nat} {t : Thr} {y : LV} {ids : List Nat} {r : List LV} {xF xS : LV} {iF iS : Nat} (h : ThrO S b t y ids r xF xS iF iS) : DeepV S b y (.agg t.lv) := by
 rw [h.eq]
 refine .agg _ _ (.cons _ _ _ _ (.keep _ rfl) (.cons _ _ _ _ (.keep _ rfl) (.cons _ _ _ _ (RowR.deep (α := Frm) h.frames h.at_.1 (h.fr.deep fun i hi => (h.ids i hi).1)) (.cons _ _ _ _ (RowR.deep0 (α := Int) h.stack h.at_.2.1) (.cons _ _ _ _ (.keep _ rfl) .nil)))))
structure FrmsO (S : List AObj) (b : Nat) (fs : List Frm) (ids : List Nat) (r : List LV) (xF : LV) (iF : Nat) : Prop where
 frames : RowR S 3 fs.length r xF iF
 fr : FrmsV S fs ids r
 nodup : ids.Nodup
 ids : ∀ id ∈ ids, b ≤ id ∧ id < S.length ∧ (fs.length ≠ 0 → id ≠ iF)
 at_ : b ≤ iF ∧ (fs.length ≠ 0 → iF < S.length)
theorem FrmsO.keep {S S' : List AObj} {b : Nat} {fs : List Frm} {ids : List Nat} {r : List LV} {xF : LV} {iF : Nat} (h : FrmsO S b fs ids r xF iF) (hl : S.length ≤ S'.length) (hk : ∀ i, b ≤ i → i < S.length → S'[i]? = S[i]?) : FrmsO S' b fs ids r xF iF :=
 ⟨h.frames.keep fun h0 => hk _ h.at_.1 (h.at_.2 h0), h.fr.keep fun i hi => hk _ (h.ids i hi).1 (h.ids i hi).2.1, h.nodup, fun i hi => ⟨(h.ids i hi).1, Nat.lt_of_lt_of_le (h.ids i hi).2.1 hl, (h.ids i hi).2.2⟩, h.at_.1, fun h0 => Nat.lt_of_lt_of_le (h.at_.2 h0) hl⟩
theorem layB_get (s J : List AObj) (a b : AObj) (d : Nat) : (s ++ (a :: b :: J))[s.length + (d + 2)]? = J[d]? := by rw [get_app]; simp
theorem layB_set (s J : List AObj) (a b o : AObj) (d : Nat) : (s ++ (a :: b :: J)).set (s.length + (d + 2)) o = s ++ (a :: b :: J.set d o) := by rw [set_app]; simp
theorem layB_keep {s J J' : List AObj} {a b a' b' : AObj} {n : Nat} (hJ : ∀ d, d < n → J'[d]? = J[d]?) : ∀ i, s.length + 2 ≤ i → i < s.length + (n + 2) → (s ++ (a' :: b' :: J'))[i]? = (s ++ (a :: b :: J))[i]? := fun i h1 h2 => by
 obtain ⟨d, rfl⟩ : ∃ d, i = s.length + (d + 2) := ⟨i - (s.length + 2), by omega⟩
 rw [layB_get, layB_get]; exact hJ d (by omega)
theorem frms_nil (S : List AObj) (b : Nat) : FrmsO S b [] [] [] .nils b := ⟨.inl ⟨rfl, rfl, rfl⟩, rfl, by simp, by simp, Nat.le_refl _, fun h => absurd rfl h⟩
theorem frms_step {P : Program} {t t2 : TypeId} (hok : appOk P t t2 3 40 = true) {s J J1 : List AObj} {a b : AObj} {x xF : LV} {iF iL k : Nat} {fs : List Frm} {ids : List Nat} {r : List LV} {f : Frm}
  (h : FrmsO (s ++ (a :: b :: J)) (s.length + 2) fs ids r xF iF) (hk : fs.length = k) (hk8 : k < 1000) (hJ : ∀ d, d < J.length → J1[d]? = J[d]?) (hJl : J.length ≤ J1.length)
  (hx : RowR (s ++ (a :: b :: J1)) 1 f.locals.length (rowCs f.locals) x iL) (hiL : s.length + (J.length + 2) ≤ iL ∧ iL < s.length + (J1.length + 2)) :
  ∃ J2 ids2, (∀ r', aAppendOwn P t t2 xF (.imm 3 1 [.int .i64 f.func, .int .i64 f.pc, x] r') (s ++ (a :: b :: J1)) = some (.ref 3 (s.length + (J1.length + 2)) 0 (k + 1) false, s ++ (a :: b :: J2))) ∧
   FrmsO (s ++ (a :: b :: J2)) (s.length + 2) (fs ++ [f]) ids2 (r ++ [.int .i64 f.func, .int .i64 f.pc, x]) (.ref 3 (s.length + (J1.length + 2)) 0 (k + 1) false) (s.length + (J1.length + 2)) := by
 subst hk
 have h1 : FrmsO (s ++ (a :: b :: J1)) (s.length + 2) fs ids r xF iF := h.keep (by simp; omega) fun i hi hl => layB_keep hJ i hi (by simpa using hl)
 have ha := own_app (P := P) (t := t) (t2 := t2) (by_ := 40) (ds := [.int .i64 f.func, .int .i64 f.pc, x]) hok (by omega) (by omega) h1.frames (by simp) (by omega)
 have hold : ∀ id ∈ ids, id < s.length + (J.length + 2) := fun id hi => by have := (h.ids id hi).2.1; simpa using this
 obtain ⟨J3, hl3, hJ3, hk3⟩ : ∃ J3 : List AObj, J3.length = J1.length ∧ (if fs.length = 0 then s ++ (a :: b :: J1) else (s ++ (a :: b :: J1)).set iF (.cells [])) = s ++ (a :: b :: J3) ∧ ∀ d, (fs.length ≠ 0 → s.length + (d + 2) ≠ iF) → J3[d]? = J1[d]? := by
  by_cases h0 : fs.length = 0
  ·exact ⟨J1, rfl, if_pos h0, fun _ _ => rfl⟩
  ·obtain ⟨d, rfl⟩ : ∃ d, iF = s.length + (d + 2) := ⟨iF - (s.length + 2), by have := h.at_.1; omega⟩
   refine ⟨J1.set d (.cells []), by simp, by rw [if_neg h0, layB_set], fun e he => ?_⟩
   rw [List.getElem?_set_ne]; intro e2; subst e2; exact he h0 rfl
 have hF : ∀ d, d < J1.length → (fs.length ≠ 0 → s.length + (d + 2) ≠ iF) → (J3 ++ [AObj.cells (r ++ [.int .i64 f.func, .int .i64 f.pc, x])])[d]? = J1[d]? := fun d hd he => by
  rw [List.getElem?_append_left (by omega)]; exact hk3 d he
 have hiL2 : fs.length ≠ 0 → iL ≠ iF := fun h0 e => by have := h.at_.2 h0; simp at this; omega
 refine ⟨J3 ++ [.cells (r ++ [.int .i64 f.func, .int .i64 f.pc, x])], ids ++ [iL], fun r' => ?_, .inr ⟨by simp, by simp, by simp, ?_, ?_⟩, ?_, ?_, ?_, ?_⟩
 ·rw [ha r', hJ3]; simp
 ·rw [layB_get, ← hl3]; simp
 ·have := (FrmsV.len h1.fr).1; simp; omega
 ·refine FrmsV.snoc (hx.keep fun _ => ?_) (h1.fr.keep fun id hid => ?_)
  ·obtain ⟨d, rfl⟩ : ∃ d, iL = s.length + (d + 2) := ⟨iL - (s.length + 2), by omega⟩
   rw [layB_get, layB_get]; exact hF d (by omega) hiL2
  ·have q := h.ids id hid
   have q2 := hold id hid
   obtain ⟨d, rfl⟩ : ∃ d, id = s.length + (d + 2) := ⟨id - (s.length + 2), by omega⟩
   rw [layB_get, layB_get]; exact hF d (by omega) q.2.2
 ·rw [List.nodup_append]
  exact ⟨h.nodup, by simp, fun i hi j hj => by simp at hj; subst hj; have := hold i hi; omega⟩
 ·intro id hid
  rcases List.mem_append.1 hid with hid | hid
  ·have q := h.ids id hid
   have q2 := hold id hid
   refine ⟨q.1, by simp; omega, fun _ => by omega⟩
  ·simp at hid; subst hid
   refine ⟨by omega, by simp; omega, fun _ => by omega⟩
 ·exact ⟨by omega, fun _ => by simp; omega⟩
def ThrB (t : Thr) : Prop := t.frames.length ≤ 8 ∧ t.stack.length ≤ 18 ∧ ∀ f ∈ t.frames, f.locals.length ≤ 8
theorem nth_mem {α : Type} [Enc α] {l : List α} {k : Nat} (h : k < l.length) : nth l k ∈ l := by rw [nth_eq h]; exact List.getElem_mem h
theorem keep_in (n : Int) : -1073741824 ≤ keep n ∧ keep n ≤ 1073741824 := by unfold keep; split <;> (try split) <;> omega
theorem Weak.ref0 (sz id off : Nat) (fl : Bool) : Weak (.ref sz id off 0 fl) (.imm sz 0 [] .no) := fun C v h => by
 simp only [RelV] at h ⊢
 obtain ⟨_, cap, rfl, h2, h3, _⟩ := h
 exact ⟨_, cap, rfl, h2, h3, by simp, by simp, fun _ _ h => absurd rfl h, fun _ _ _ => by simp [RelCs], trivial⟩
theorem zeros_row (n : Nat) : zeros [LV.int .i64 0] n = rowCs (List.replicate n (0 : Int)) := by
 induction n with
 | zero => rfl
 | succ n ih => unfold zeros at *; rw [List.replicate_succ, List.flatten_cons, ih, List.replicate_succ, rowCs_cons]; rfl
theorem DeepV.ref_row {α : Type} [Enc α] {S : List AObj} {n id : Nat} {fl : Bool} {l : List α} (hn : n ≤ id) (hS : S[id]? = some (.cells (rowCs l))) (hne : rowCs l ≠ []) : DeepV S n (.ref (Enc.sz α) id 0 l.length fl) (row l) := by
 refine .weak _ _ _ (.ref (Enc.sz α) id 0 l.length fl (rowCs l) (rowCs l) hn hS hne (by rw [rowCs_len]; omega) ?_) (Weak.refl _)
 have : (List.take (l.length * Enc.sz α) (List.drop 0 (rowCs l))) = rowCs l := by rw [List.drop_zero, List.take_of_length_le (by rw [rowCs_len]; omega)]
 rw [this]
 exact keepAll _ (rowCs_und n l)
theorem RowR.cells {S : List AObj} {sz n id : Nat} {cs : List LV} {x : LV} (h : RowR S sz n cs x id) : x.cells = [x] ∧ x.cellsOk = true := by
 rcases h with ⟨_, _, rfl⟩ | ⟨_, _, rfl, _⟩ <;> exact ⟨rfl, rfl⟩
theorem RowR.len {P : Program} {t : TypeId} (ht : isSl P t = true) {S : List AObj} {sz n id : Nat} {cs : List LV} {x : LV} (h : RowR S sz n cs x id) : aLen P t x = some (.int .i64 n) := by
 obtain ⟨e, ht⟩ : ∃ e, P.underlying t = some (.slice e) := by
  unfold isSl at ht
  split at ht
  ·exact ⟨_, by assumption⟩
  ·cases ht
 rcases h with ⟨rfl, _, rfl⟩ | ⟨_, _, rfl, _⟩ <;> simp [aLen, ht]
theorem own_nil {α : Type} [Enc α] {P : Program} {t t2 : TypeId} {sz by_ : Nat} (hok : appOk P t t2 sz by_ = true) (hsz : Enc.sz α = sz) (hpos : 0 < sz) {l : List α} (b0 : l.length ≤ maxLen) (b : l.length * by_ ≤ 140737488355328) (S : List AObj) :
  ∃ x J, aAppendOwn P t t2 .nils (row l) S = some (x, S ++ J) ∧ ((l = [] ∧ x = .nils ∧ J = []) ∨ (l ≠ [] ∧ x = .ref sz S.length 0 l.length false ∧ J = [.cells (rowCs l)])) := by
 subst hsz
 have hyc : aCells (Enc.sz α) (row l) S = some (rowCs l, l.length) := by rw [aCells_row, if_pos rfl]
 unfold appOk at hok
 split at hok
 rotate_left
 ·cases hok
 rename_i e hu
 simp only [Bool.and_eq_true] at hok
 obtain ⟨⟨⟨hs, hb⟩, hn⟩, hz⟩ := hok
 cases hs' : szT P e with
 | none => rw [hs'] at hs; cases hs
 | some s' =>
 rw [hs'] at hs; simp at hs; subst hs
 cases hb' : bytesT P e with
 | none => rw [hb'] at hb; cases hb
 | some b' =>
 rw [hb'] at hb; simp at hb; subst hb
 cases hz' : zeroT P e with
 | none => rw [hz'] at hz; cases hz
 | some z =>
 rw [hz'] at hz; simp only [Bool.and_eq_true, beq_iff_eq] at hz
 by_cases hl : l = []
 ·subst hl
  have hnil : aAppendNil P t t2 .nils (row ([] : List α)) S = true := by
   unfold notInt at hn
   unfold aAppendNil
   simp only [hu, hs', hyc]
   simpa [notInt] using hn
  exact ⟨.nils, [], by unfold aAppendOwn; rw [if_pos hnil]; simp, .inl ⟨rfl, rfl, rfl⟩⟩
 ·have h0 : l.length ≠ 0 := fun e => hl (List.length_eq_zero_iff.1 e)
  have hnil : aAppendNil P t t2 .nils (row l) S = false := by
   unfold aAppendNil
   simp only [hu, hs', hyc]
   simp [h0]
  refine ⟨_, [.cells (rowCs l)], ?_, .inr ⟨hl, rfl, rfl⟩⟩
  unfold aAppendOwn
  rw [if_neg (by rw [hnil]; simp)]
  unfold aAppendNew
  simp only [hu, hs', hb', hz', hyc]
  rw [if_pos ⟨hn, hz.1, hz.2⟩]
  simp only [aHead]
  rw [if_pos ⟨by omega, by simpa using b, h0⟩]
  simp
theorem FrmsO.base {S : List AObj} {b b' : Nat} {fs : List Frm} {ids : List Nat} {r : List LV} {xF : LV} {iF : Nat} (h : FrmsO S b fs ids r xF iF) (hb : b' ≤ b) : FrmsO S b' fs ids r xF iF :=
 ⟨h.frames, h.fr, h.nodup, fun i hi => ⟨Nat.le_trans hb (h.ids i hi).1, (h.ids i hi).2⟩, Nat.le_trans hb h.at_.1, h.at_.2⟩
def CloneT (t : Thr) (s : List AObj) (v : List Nat) (y : LV) (s' : List AObj) (v' : List Nat) : Prop :=
 v = v' ∧ ∃ J ids r xF xS dF dS, s ++ J = s' ∧ y = .agg [.int .i64 t.state, .int .i64 t.on, xF, xS, .int .i64 t.code] ∧ FrmsO s' s.length t.frames ids r xF (s.length + dF) ∧
  RowR s' 1 t.stack.length (rowCs t.stack) xS (s.length + dS) ∧ (t.stack.length ≠ 0 → ∀ id ∈ ids, id ≠ s.length + dS) ∧ (t.frames.length ≠ 0 → t.stack.length ≠ 0 → dF ≠ dS)
theorem cloneT_end {t : Thr} {s J J3 : List AObj} {a b a' b' : AObj} {v : List Nat} {ids : List Nat} {r : List LV} {xF x1 : LV} {iF : Nat} (hF : FrmsO (s ++ (a :: b :: J)) (s.length + 2) t.frames ids r xF iF)
  (h3 : (t.stack = [] ∧ x1 = .nils ∧ J3 = []) ∨ (t.stack ≠ [] ∧ x1 = .ref 1 (s.length + (J.length + 2)) 0 t.stack.length false ∧ J3 = [.cells (rowCs t.stack)])) :
  CloneT t s v (.agg [.int .i64 t.state, .int .i64 t.on, xF, x1, .int .i64 t.code]) (s ++ (a' :: b' :: (J ++ J3))) v := by
 obtain ⟨dF, rfl⟩ : ∃ d, iF = s.length + d := ⟨iF - s.length, by have := hF.at_.1; omega⟩
 have hF2 : FrmsO (s ++ (a' :: b' :: (J ++ J3))) s.length t.frames ids r xF (s.length + dF) := (hF.keep (by simp) fun i hi hl => layB_keep (n := J.length) (fun d hd => List.getElem?_append_left hd) i hi (by simpa using hl)).base (by omega)
 refine ⟨rfl, a' :: b' :: (J ++ J3), ids, r, xF, x1, dF, J.length + 2, rfl, rfl, hF2, ?_, fun _ id hid e => ?_, fun h0 _ e => ?_⟩
 ·rcases h3 with ⟨e1, rfl, rfl⟩ | ⟨e1, rfl, rfl⟩
  ·rw [e1]; exact .inl ⟨rfl, rfl, rfl⟩
  ·have hl1 : t.stack.length ≠ 0 := fun e => e1 (List.length_eq_zero_iff.1 e)
   refine .inr ⟨hl1, rowCs_ne (by simp) e1, rfl, ?_, by rw [rowCs_len]; simp⟩
   rw [layB_get, List.getElem?_append_right (by omega)]; simp
 ·have := (hF.ids id hid).2.1; simp at this; omega
 ·have := hF.at_.2 h0; simp at this; omega
theorem thr_deep {S : List AObj} {b n iF iS : Nat} {fr : List Frm} {ids : List Nat} {r : List LV} {sk : List Int} {xS : LV} {st on co : Int} (h1 : FrmsV S fr ids r) (hids : ∀ id ∈ ids, b ≤ id) (hF : S[iF]? = some (.cells r)) (hn : fr.length = n) (hn0 : n ≠ 0) (hbF : b ≤ iF)
  (hS : RowR S 1 sk.length (rowCs sk) xS iS) (hbS : b ≤ iS) : DeepV S b (.agg [.int .i64 st, .int .i64 on, .ref 3 iF 0 n false, xS, .int .i64 co]) (.agg [.int .i64 st, .int .i64 on, row fr, row sk, .int .i64 co]) := by
 subst hn
 have hr := (FrmsV.len h1).1
 refine .agg _ _ (.cons _ _ _ _ (.keep _ rfl) (.cons _ _ _ _ (.keep _ rfl) (.cons _ _ _ _ (RowR.deep (α := Frm) (cs := r) (.inr ⟨hn0, ?_, rfl, hF, hr⟩) hbF (h1.deep hids)) (.cons _ _ _ _ (RowR.deep0 (α := Int) hS hbS) (.cons _ _ _ _ (.keep _ rfl) .nil)))))
 intro e; rw [e] at hr; simp at hr; omega
theorem layB_other {s J : List AObj} {a b a' b' o X : AObj} {d i : Nat} (hd : d < J.length) (h1 : s.length + 2 ≤ i) (h2 : i < s.length + (J.length + 2)) (h3 : i ≠ s.length + (d + 2)) : (s ++ (a' :: b' :: (J.set d o ++ [X])))[i]? = (s ++ (a :: b :: J))[i]? := by
 obtain ⟨e, rfl⟩ : ∃ e, i = s.length + (e + 2) := ⟨i - (s.length + 2), by omega⟩
 rw [layB_get, layB_get, List.getElem?_append_left (by simp; omega), List.getElem?_set_ne (by omega)]
theorem lay_of {P : List AObj → Nat → Nat → Prop} {s J : List AObj} {a b : AObj} {d : Nat} (h : P ((s ++ [a, b]) ++ J) (s ++ [a, b]).length ((s ++ [a, b]).length + d)) : P (s ++ (a :: b :: J)) (s.length + 2) (s.length + (d + 2)) := by
 have e1 : (s ++ [a, b]) ++ J = s ++ (a :: b :: J) := by simp
 have e2 : (s ++ [a, b]).length = s.length + 2 := by simp
 rw [e1, e2, show s.length + 2 + d = s.length + (d + 2) by omega] at h
 exact h
theorem RowR.lt {S : List AObj} {sz n id : Nat} {cs : List LV} {x : LV} (h : RowR S sz n cs x id) (h0 : n ≠ 0) : id < S.length := by
 rcases h with h | ⟨_, _, _, h, _⟩
 ·exact absurd h.1 h0
 ·exact (List.getElem?_eq_some_iff.1 h).1
theorem third_at {r : List LV} {i : Nat} {a b c : LV} (h : (r.drop i).take 3 = [a, b, c]) : r[i + 2]? = some c := by
 have h2 : ((r.drop i).take 3)[2]? = some c := by rw [h]; rfl
 rwa [List.getElem?_take_of_lt (by omega), List.getElem?_drop] at h2
theorem rowCs_set : ∀ (l : List Int) (j : Nat) (x : Int), (rowCs l).set j (.int .i64 x) = rowCs (l.set j x)
 | [], j, x => by simp
 | i :: l, 0, x => by simp [rowCs_cons]
 | i :: l, j + 1, x => by
  have ih := rowCs_set l j x
  simp [rowCs_cons, ih]
theorem push_b {t : Thr} (h : ThrB t) (x : Int) : ThrB (push t x).1 := by
 unfold push
 split
 ·exact h
 ·exact ⟨h.1, by have := h.2.1; simp; omega, h.2.2⟩
theorem pop_b {t : Thr} (h : ThrB t) : ThrB (pop t).1 := by
 unfold pop
 split
 ·exact h
 ·exact ⟨h.1, by have := h.2.1; simp; omega, h.2.2⟩
theorem popN_b {t : Thr} (h : ThrB t) : ∀ n, ThrB (popN n t).1
 | 0 => h
 | n + 1 => pop_b (popN_b h n)
theorem jump_b {t : Thr} (h : ThrB t) (pc : Int) : ThrB (jump t pc) := by
 unfold jump
 by_cases h0 : t.frames = []
 ·rw [show t.frames.set (t.frames.length - 1) { topF t with pc := pc } = t.frames by rw [h0]; rfl]; exact h
 refine ⟨by simpa using h.1, h.2.1, fun f hf => ?_⟩
 rcases List.mem_or_eq_of_mem_set hf with hf | rfl
 ·exact h.2.2 f hf
 ·have hn : t.frames.length ≠ 0 := fun e => h0 (List.length_eq_zero_iff.1 e)
  have hl : t.frames.length - 1 < t.frames.length := by omega
  show (topF t).locals.length ≤ 8
  exact h.2.2 (topF t) (nth_mem hl)
theorem popN_frames (t : Thr) : ∀ n, (popN n t).1.frames = t.frames
 | 0 => rfl
 | n + 1 => by
  rw [← popN_frames t n]
  show (pop (popN n t).1).1.frames = _
  unfold pop
  split <;> rfl
theorem popN_len (t : Thr) : ∀ n, (popN n t).2.length = n
 | 0 => rfl
 | n + 1 => by show ((popN n t).2 ++ _).length = _; simp [popN_len t n]
theorem popN_in {t : Thr} (h : ∀ x ∈ t.stack, -1073741824 ≤ x ∧ x ≤ 1073741824) : ∀ n, (∀ x ∈ (popN n t).1.stack, -1073741824 ≤ x ∧ x ≤ 1073741824) ∧ ∀ x ∈ (popN n t).2, -1073741824 ≤ x ∧ x ≤ 1073741824
 | 0 => ⟨h, by simp [popN]⟩
 | n + 1 => by
  have ih := popN_in h n
  have e : popN (n + 1) t = ((pop (popN n t).1).1, (popN n t).2 ++ [(pop (popN n t).1).2.1]) := rfl
  rw [e]
  generalize popN n t = q at *
  unfold pop
  by_cases h0 : q.1.stack.length = 0
  ·rw [if_pos h0]
   refine ⟨ih.1, fun x hx => ?_⟩
   rcases List.mem_append.1 hx with hx | hx
   ·exact ih.2 x hx
   ·simp at hx; omega
  ·rw [if_neg h0]
   refine ⟨fun x hx => ih.1 x (List.mem_of_mem_take hx), fun x hx => ?_⟩
   rcases List.mem_append.1 hx with hx | hx
   ·exact ih.2 x hx
   ·simp at hx; subst hx; exact ih.1 _ (nth_mem (by omega))
theorem andC {P : Program} {f : FuncId} {args : List LV} {s : List AObj} {v : List Nat} {K : LV → List AObj → List Nat → Prop} {Q : Prop} (h : aCalls P f args s v K) (k : Q) : aCalls P f args s v K ∧ Q := ⟨h, k⟩
def Hid (p : Prop) : Prop := p
theorem nth_set {α : Type} [Enc α] {l : List α} {n : Nat} (h : n < l.length) (x : α) : nth (l.set n x) n = x := by rw [nth_eq (by simpa using h)]; simp
theorem nth_set_ne {α : Type} [Enc α] {l : List α} {n m : Nat} (h : n ≠ m) (x : α) : nth (l.set n x) m = nth l m := by simp [nth, List.getD_eq_getElem?_getD, List.getElem?_set_ne h]
end Go.Hb
end

section
namespace Go.Hb
open Go
theorem Frzs.rel {id : Nat} {cs : List LV} {C : Ctx} {s : List AObj} (h : Ok C s) (hs : s[id]? = some (.cells cs)) (hne : cs ≠ []) : ∀ {xs ys : List LV} {vs : List Value}, Frzs id cs xs ys → RelVs C xs vs → RelVs (C.freeze id cs.length) ys vs
 | [], [], vs, _, r => by simpa [RelVs] using r
 | [], _ :: _, _, k, _ => k.elim
 | _ :: _, [], _, k, _ => k.elim
 | x :: xs, y :: ys, vs, k, r => by
  simp only [RelVs] at r ⊢
  obtain ⟨v, r', e1, e2, e3⟩ := r
  exact ⟨v, r', e1, k.1 C s h hs hne v e2, Frzs.rel h hs hne k.2 e3⟩
theorem Frz.agg {id : Nat} {cs xs ys : List LV} (k : Frzs id cs xs ys) : Frz id cs (.agg xs) (.agg ys) := fun C s h hs hne v r => by
 simp only [RelV] at r ⊢
 obtain ⟨vs, e1, e2, e3⟩ := r
 exact ⟨vs, e1, Frzs.rel h hs hne k e2, e3⟩
theorem Frzs.refl (id : Nat) (cs : List LV) : ∀ xs, Frzs id cs xs xs
 | [] => trivial
 | x :: xs => ⟨Frz.refl id cs x, Frzs.refl id cs xs⟩
theorem aCalls_frz1 {P : Program} {f : FuncId} {args args' : List LV} {s : List AObj} {v : List Nat} {K : LV → List AObj → List Nat → Prop} {id : Nat} {cs : List LV} (hs : s[id]? = some (.cells cs)) (hne : cs ≠ []) (ha : Frzs id cs args args')
  (h : aCalls P f args' (s.set id (.cells [])) v K) : aCalls P f args s v K := by
 refine ⟨?_, fun C vs h1 h2 h3 => ?_⟩
 ·exact h.1
 ·have hle := frz_le h1 hs hne
  have hid := (List.getElem?_eq_some_iff.1 hs).1
  have hlim : C.lim (C.ρ id) = 0 := (h1.own id (by rw [h1.n]; exact hid)).2.1.resolve_left fun hb => by
   rw [hs] at hb; simp at hb; exact hne hb
  refine (h.2 (C.freeze id cs.length) vs (h1.freeze hid hlim hs hne) h2 (Frzs.rel h1 hs hne ha h3)).mono ?_
  rintro e w' ⟨C', x, u, s', v', k1, k2, k3, k4⟩
  exact ⟨C', x, u, s', v', k1, k2, hle.trans k3, k4⟩
section
variable {α : Type} [Enc α]
theorem GroE.appr {P : Program} {t t2 : TypeId} {by_ : Nat} (hok : appOk P t t2 (Enc.sz α) by_ = true) (hby : by_ ≤ 1000) {v0 v : List Nat} {l : List α} {x : LV} (h : GroE v0 v l x) (l2 : List α) (b : l.length + l2.length ≤ 100000000) :
  ∃ x' v', GroE v0 v' (l ++ l2) x' ∧ Keep x v v' ∧ ∀ s, aAppend P t t2 x (row l2) s v = some (x', v') := by
 have hm : (l.length + l2.length) * by_ ≤ 100000000 * 1000 := Nat.mul_le_mul b hby
 obtain ⟨x', v', h1, h2, h3⟩ := GroC.app (P := P) (m := l2.length) (ds := rowCs l2) hok h (fun e => by rw [List.length_eq_zero_iff.1 e]; rfl) (by unfold maxLen; omega) (by omega)
 exact ⟨x', v', by unfold GroE; rw [rowCs_app, List.length_append]; exact h1, h2, fun s => h3 _ s (by rw [aCells_row, if_pos rfl])⟩
theorem GroE.slice {P : Program} {t : TypeId} (ht : elemSz P t = some (Enc.sz α)) {v0 v : List Nat} {l : List α} {x : LV} (h : GroE v0 v l x) {a : Int} (h0 : 0 ≤ a) (h1 : a ≤ l.length) :
  ∃ x', aSlice P t x (some (.int .i64 a)) none none = some x' ∧ GroE v0 v (l.drop a.toNat) x' := by
 obtain ⟨e, hu, hs⟩ := elemSz_some ht
 rcases h.2 with ⟨e0, e1, hx⟩ | ⟨g, e2, hg, rfl, hv⟩
 ·have hl : l = [] := List.length_eq_zero_iff.1 e0
  subst hl
  have ha : a = 0 := by simp at h1; omega
  subst ha
  rcases hx with rfl | rfl
  ·exact ⟨.nils, by unfold aSlice; simp [hu, hs, aBounds, oInt], h.1, .inl ⟨rfl, rfl, .inl rfl⟩⟩
  ·exact ⟨.imm (Enc.sz α) 0 [] .full, by unfold aSlice; simp [hu, hs, aBounds, oInt, sliceR], h.1, .inl ⟨rfl, rfl, .inr rfl⟩⟩
 ·refine ⟨.imm (Enc.sz α) (l.drop a.toNat).length (rowCs (l.drop a.toNat)) (.tip g e2), ?_, h.1, .inr ⟨g, e2, hg, rfl, hv⟩⟩
  have hb : aBounds l.length (some (.int .i64 a)) none none = some (a.toNat, l.length, none) := by simp [aBounds, oInt, h0, h1]
  unfold aSlice
  simp only [hu, hs, if_true]
  rw [hb]
  simp only [Option.map_some, rowCs_drop, rowCs_take, sliceR, if_true]
  have e1 : (rowCs (l.drop a.toNat)).take ((l.length - a.toNat) * Enc.sz α) = rowCs (l.drop a.toNat) := by
   rw [List.take_of_length_le]; rw [rowCs_len, List.length_drop]; exact Nat.le_refl _
  rw [← rowCs_take]
  simp only [e1, List.length_drop]
def FreshE (P : Program) (f : FuncId) (args : List LV) (l : List α) : Prop := ∀ s v, aCalls P f args s v fun x s' v' => s = s' ∧ GroE v v' l x
theorem callFE {P : Program} {f : FuncId} {args : List LV} {s : List AObj} {v : List Nat} {K : LV → List AObj → List Nat → Prop} {l : List α} (h : FreshE P f args l) (k : ∀ x v', (x.cells = [x] ∧ x.cellsOk = true) → GroE v v' l x → K x s v') : aCalls P f args s v K :=
 aCalls_mono (h s v) fun x s' v' ⟨e1, e2⟩ => by subst e1; exact k x v' e2.gro.cells e2
end
def tipOf : LV → Option Nat
 | .imm _ _ _ (.tip g _) => some g
 | _ => none
structure ListsG (v0 v : List Nat) (L : List (List Int)) (xs : List LV) : Prop where
 len : xs.length = L.length
 at_ : ∀ i, i < L.length → ∃ x, xs[i]? = some x ∧ GroE v0 v (nth L i) x
 pre : v0 <+: v
 dis : ∀ (i j : Nat) (x y : LV) (g : Nat), i ≠ j → xs[i]? = some x → xs[j]? = some y → tipOf x = some g → tipOf y ≠ some g
theorem ListsG.nil (v : List Nat) : ListsG v v [] [] := ⟨rfl, by simp, List.prefix_refl _, by simp⟩
theorem tip_lt {α : Type} [Enc α] {v0 v : List Nat} {l : List α} {x : LV} {g : Nat} (h : GroE v0 v l x) (ht : tipOf x = some g) : v0.length ≤ g ∧ g < v.length := by
 rcases h.2 with ⟨_, _, rfl | rfl⟩ | ⟨g', e, h1, rfl, h3⟩
 ·cases ht
 ·cases ht
 ·simp only [tipOf, Option.some.injEq] at ht; subst ht
  exact ⟨h1, (List.getElem?_eq_some_iff.1 h3).1⟩
theorem ListsG.snoc {v0 v v' : List Nat} {L : List (List Int)} {xs : List LV} {l : List Int} {x : LV} (h : ListsG v0 v L xs) (hx : GroE v v' l x) : ListsG v0 v' (L ++ [l]) (xs ++ [x]) := by
 refine ⟨by simp [h.len], fun i hi => ?_, h.pre.trans hx.1, fun i j a b g hij ha hb ht => ?_⟩
 ·by_cases e : i < L.length
  ·obtain ⟨y, h1, h2⟩ := h.at_ i e
   refine ⟨y, by rw [List.getElem?_append_left (by rw [h.len]; exact e)]; exact h1, ?_⟩
   rw [show nth (L ++ [l]) i = nth L i by simp [nth, List.getD, List.getElem?_append_left e]]
   exact GroC.mono h2 hx.1
  ·have : i = L.length := by simp at hi; omega
   subst this
   refine ⟨x, by rw [← h.len]; simp, ?_⟩
   rw [show nth (L ++ [l]) L.length = l by simp [nth, List.getD]]
   exact GroC.back hx h.pre
 ·have key : ∀ {k : Nat} {y : LV} {g : Nat}, xs[k]? = some y → tipOf y = some g → g < v.length := fun {k y g} hk ht => by
   have hk' := (List.getElem?_eq_some_iff.1 hk).1
   obtain ⟨y', e1, e2⟩ := h.at_ k (by rw [← h.len]; exact hk')
   rw [hk] at e1; cases e1
   exact (tip_lt e2 ht).2
  have hlx : ∀ {k : Nat} {y : LV}, (xs ++ [x])[k]? = some y → (k < xs.length ∧ xs[k]? = some y) ∨ (k = xs.length ∧ y = x) := fun {k y} hk => by
   by_cases e : k < xs.length
   ·rw [List.getElem?_append_left e] at hk; exact .inl ⟨e, hk⟩
   ·rw [List.getElem?_append_right (by omega)] at hk
    have hk2 := (List.getElem?_eq_some_iff.1 hk).1
    simp at hk2
    have : k = xs.length := by omega
    subst this
    simp at hk
    exact .inr ⟨rfl, hk.symm⟩
  rcases hlx ha with ⟨e1, ha'⟩ | ⟨e1, ea⟩ <;> rcases hlx hb with ⟨e2, hb'⟩ | ⟨e2, eb⟩
  ·exact h.dis i j a b g hij ha' hb' ht
  ·intro hc
   rw [eb] at hc
   have := key ha' ht
   have := (tip_lt hx hc).1
   omega
  ·intro hc
   rw [ea] at ht
   have := key hb' hc
   have := (tip_lt hx ht).1
   omega
  ·omega
theorem ListsG.mono {v0 v v' : List Nat} {L : List (List Int)} {xs : List LV} (h : ListsG v0 v L xs) (hv : v <+: v') : ListsG v0 v' L xs :=
 ⟨h.len, fun i hi => by obtain ⟨x, h1, h2⟩ := h.at_ i hi; exact ⟨x, h1, GroC.mono h2 hv⟩, h.pre.trans hv, h.dis⟩
theorem ListsG.back {v00 v0 v : List Nat} {L : List (List Int)} {xs : List LV} (h : ListsG v0 v L xs) (hv : v00 <+: v0) : ListsG v00 v L xs :=
 ⟨h.len, fun i hi => by obtain ⟨x, h1, h2⟩ := h.at_ i hi; exact ⟨x, h1, GroC.back h2 hv⟩, hv.trans h.pre, h.dis⟩
def ListsW (L : List (List Int)) (xs : List LV) : Prop := xs.length = L.length ∧ ∀ i, i < L.length → ∃ x, xs[i]? = some x ∧ Weak x (row (nth L i)) ∧ x.under 0 = true
theorem ListsG.weak {v0 v : List Nat} {L : List (List Int)} {xs : List LV} (h : ListsG v0 v L xs) : ListsW L xs :=
 ⟨h.len, fun i hi => by obtain ⟨x, h1, h2⟩ := h.at_ i hi; exact ⟨x, h1, h2.gro.weak, h2.gro.under 0⟩⟩
theorem ListsW.put {L : List (List Int)} {xs : List LV} {k : Nat} {l : List Int} {x : LV} (h : ListsW L xs) (hw : Weak x (row l)) (hu : x.under 0 = true) : ListsW (L.set k l) (xs.set k x) := by
 refine ⟨by simp [h.1], fun i hi => ?_⟩
 simp at hi
 by_cases e : k = i
 ·subst e
  refine ⟨x, by rw [List.getElem?_set_self (by rw [h.1]; exact hi)], by rw [nth_set hi]; exact hw, hu⟩
 ·obtain ⟨y, h1, h2⟩ := h.2 i hi
  exact ⟨y, by rw [List.getElem?_set_ne e]; exact h1, by rw [nth_set_ne e]; exact h2⟩
theorem ListsW.deep {S : List AObj} {n : Nat} : ∀ {L : List (List Int)} {xs : List LV}, ListsW L xs → DeepVs S n xs (rowCs L)
 | [], [], _ => .nil
 | [], _ :: _, h => by simp [ListsW] at h
 | _ :: _, [], h => by simp [ListsW] at h
 | l :: L, x :: xs, h => by
  obtain ⟨x', h1, h2, h3⟩ := h.2 0 (by simp)
  simp at h1; subst h1
  rw [rowCs_cons]
  refine .cons _ _ _ _ (.weak _ _ _ (.keep x (LV.under_mono x h3)) h2) (ListsW.deep ⟨by simpa using h.1, fun i hi => ?_⟩)
  obtain ⟨y, q1, q2⟩ := h.2 (i + 1) (by simpa using hi)
  exact ⟨y, by simpa using q1, q2⟩
def RowsR (sz n : Nat) (Q : List LV → List Nat → Prop) (s : List AObj) (x : LV) (s' : List AObj) (v' : List Nat) : Prop :=
 ∃ J d cs, s ++ J = s' ∧ RowR s' sz n cs x (s.length + d) ∧ d ≤ J.length ∧ (n ≠ 0 → d < J.length) ∧ Q cs v'
theorem callRows {P : Program} {f : FuncId} {args : List LV} {s : List AObj} {v : List Nat} {sz n : Nat} {Q : List LV → List Nat → Prop} {K : LV → List AObj → List Nat → Prop} (h : aCalls P f args s v (RowsR sz n Q s))
  (k : ∀ x J d cs v', (x.cells = [x] ∧ x.cellsOk = true) → RowR (s ++ J) sz n cs x (s.length + d) → d ≤ J.length → (n ≠ 0 → d < J.length) → Q cs v' → K x (s ++ J) v') : aCalls P f args s v K := by
 refine aCalls_mono h ?_
 rintro x s' v' ⟨J, d, cs, rfl, h1, h2, h3, h4⟩
 exact k x J d cs v' h1.cells h1 h2 h3 h4
theorem rowR_lift {S0 S1 J B : List AObj} {sz n d : Nat} {cs : List LV} {x : LV} (h : RowR (S0 ++ J) sz n cs x (S0.length + d)) (hd : n ≠ 0 → d < J.length) (hl : S1.length = S0.length) : RowR (S1 ++ (J ++ B)) sz n cs x (S0.length + d) :=
 h.keep fun h0 => by
  rw [get_app, ← hl, get_app, List.getElem?_append_left (hd h0)]
theorem lists_step {P : Program} {t t2 : TypeId} {by_ : Nat} (hok : appOk P t t2 1 by_ = true) (hby : by_ ≤ 1000) {s J : List AObj} {k d : Nat} {xs : List LV} {x : LV} (hr : RowR (s ++ J) 1 k xs x (s.length + d)) (y : LV) (b : k + 1 ≤ 100000000) :
  ∃ J2, (∀ r, aAppendOwn P t t2 x (.imm 1 1 [y] r) (s ++ J) = some (.ref 1 (s.length + J.length) 0 (k + 1) false, s ++ J2)) ∧ RowR (s ++ J2) 1 (k + 1) (xs ++ [y]) (.ref 1 (s.length + J.length) 0 (k + 1) false) (s.length + J.length) ∧ J.length < J2.length := by
 have ha := own_app (P := P) (t := t) (t2 := t2) (by_ := by_) (ds := [y]) hok (by omega) hby hr rfl b
 have e : (if k = 0 then s ++ J else (s ++ J).set (s.length + d) (.cells [])) ++ [AObj.cells (xs ++ [y])] = s ++ ((if k = 0 then J else J.set d (.cells [])) ++ [AObj.cells (xs ++ [y])]) := by
  split
  ·simp
  ·rw [set_app]; simp
 have hl : (if k = 0 then J else J.set d (.cells [])).length = J.length := by split <;> simp
 have hxl : xs.length = k := by
  rcases hr with ⟨h1, h2, _⟩ | ⟨_, _, _, _, h⟩
  ·rw [h1, h2]; rfl
  ·omega
 refine ⟨(if k = 0 then J else J.set d (.cells [])) ++ [AObj.cells (xs ++ [y])], fun r => ?_, .inr ⟨by omega, by simp, rfl, ?_, by simp [hxl]⟩, ?_⟩
 ·rw [ha r, e, List.length_append]
 ·rw [get_app, List.getElem?_append_right (by omega), hl]; simp
 ·rw [List.length_append, hl]; simp
structure OwnO (S : List AObj) (b : Nat) (v0 v : List Nat) (c : Cor) (y xO xC xL xW xD : LV) (cL cW cD : List LV) (iO iC iL iW iD : Nat) : Prop where
 eq : y = .agg [.int .i64 c.now, row c.threads, xO, xC, row c.bufs, xL, xW, xD, row c.sendq, row c.recvq]
 owners : RowR S 1 c.owners.length (rowCs c.owners) xO iO
 counts : RowR S 1 c.counts.length (rowCs c.counts) xC iC
 lockq : RowR S 1 c.lockq.length cL xL iL
 waitq : RowR S 1 c.waitq.length cW xW iW
 downq : RowR S 1 c.downq.length cD xD iD
 gL : ListsG v0 v c.lockq cL
 gW : ListsG v0 v c.waitq cW
 gD : ListsG v0 v c.downq cD
 bO : b ≤ iO ∧ (c.owners.length ≠ 0 → iO < iC ∧ iO < iL ∧ iO < iW ∧ iO < iD)
 bC : b ≤ iC ∧ (c.counts.length ≠ 0 → iC < iL ∧ iC < iW ∧ iC < iD)
 bL : b ≤ iL ∧ (c.lockq.length ≠ 0 → iL < iW ∧ iL < iD)
 bW : b ≤ iW ∧ (c.waitq.length ≠ 0 → iW < iD)
 bD : b ≤ iD
def OwnR (c : Cor) (s : List AObj) (v : List Nat) (y : LV) (s' : List AObj) (v' : List Nat) : Prop :=
 ∃ J xO xC xL xW xD cL cW cD dO dC dL dW dD, s ++ J = s' ∧ OwnO s' s.length v v' c y xO xC xL xW xD cL cW cD (s.length + dO) (s.length + dC) (s.length + dL) (s.length + dW) (s.length + dD)
theorem RowR.eq {S S' : List AObj} {sz n id id' : Nat} {cs : List LV} {x : LV} (h : RowR S sz n cs x id) (e1 : S = S') (e2 : id = id') : RowR S' sz n cs x id' := by subst e1; subst e2; exact h
def RowsB (L : List (List Int)) : Prop := L.length ≤ 1000 ∧ ∀ l ∈ L, l.length ≤ 1000
structure CorB (c : Cor) : Prop where
 threads : c.threads.length ≤ 1000
 owners : c.owners.length ≤ 1000
 counts : c.counts.length ≤ 1000
 bufs : RowsB c.bufs
 lockq : RowsB c.lockq
 waitq : RowsB c.waitq
 downq : RowsB c.downq
 sendq : RowsB c.sendq
 recvq : RowsB c.recvq
theorem RowsB.big {L : List (List Int)} (h : RowsB L) : L.length ≤ 10000000 ∧ ∀ l ∈ L, l.length ≤ 10000000 := ⟨by have := h.1; omega, fun l hl => by have := h.2 l hl; omega⟩
theorem core_deep {S : List AObj} {b : Nat} {now : Int} {thr : List Thr} {O C : List Int} {B L W D SQ RQ : List (List Int)} {xO xC xL xW xD : LV} {cL cW cD : List LV} {iO iC iL iW iD : Nat}
  (hO : RowR S 1 O.length (rowCs O) xO iO) (hC : RowR S 1 C.length (rowCs C) xC iC) (hL : RowR S 1 L.length cL xL iL) (hW : RowR S 1 W.length cW xW iW) (hD : RowR S 1 D.length cD xD iD) (gL : ListsW L cL) (gW : ListsW W cW) (gD : ListsW D cD)
  (bO : b ≤ iO) (bC : b ≤ iC) (bL : b ≤ iL) (bW : b ≤ iW) (bD : b ≤ iD) : DeepV S b (.agg [.int .i64 now, row thr, xO, xC, row B, xL, xW, xD, row SQ, row RQ]) (.agg (Cor.lv ⟨now, thr, O, C, B, L, W, D, SQ, RQ⟩)) :=
 .agg _ _ (.cons _ _ _ _ (.keep _ rfl) (.cons _ _ _ _ (.keep _ (by simp)) (.cons _ _ _ _ (RowR.deep0 (α := Int) hO bO) (.cons _ _ _ _ (RowR.deep0 (α := Int) hC bC) (.cons _ _ _ _ (.keep _ (by simp))
  (.cons _ _ _ _ (RowR.deep (α := List Int) hL bL gL.deep) (.cons _ _ _ _ (RowR.deep (α := List Int) hW bW gW.deep) (.cons _ _ _ _ (RowR.deep (α := List Int) hD bD gD.deep) (.cons _ _ _ _ (.keep _ (by simp)) (.cons _ _ _ _ (.keep _ (by simp)) .nil))))))))))
theorem callOwn {P : Program} {c : Cor} {f : FuncId} {args : List LV} {s : List AObj} {v : List Nat} {K : LV → List AObj → List Nat → Prop} (h : aCalls P f args s v (OwnR c s v))
  (k : ∀ v' J xO xC xL xW xD cL cW cD dO dC dL dW dD, (xO.cells = [xO] ∧ xO.cellsOk = true) → (xC.cells = [xC] ∧ xC.cellsOk = true) → (xL.cells = [xL] ∧ xL.cellsOk = true) → (xW.cells = [xW] ∧ xW.cellsOk = true) → (xD.cells = [xD] ∧ xD.cellsOk = true) →
   OwnO (s ++ J) s.length v v' c (.agg [.int .i64 c.now, row c.threads, xO, xC, row c.bufs, xL, xW, xD, row c.sendq, row c.recvq]) xO xC xL xW xD cL cW cD (s.length + dO) (s.length + dC) (s.length + dL) (s.length + dW) (s.length + dD) →
   K (.agg [.int .i64 c.now, row c.threads, xO, xC, row c.bufs, xL, xW, xD, row c.sendq, row c.recvq]) (s ++ J) v') : aCalls P f args s v K := by
 refine aCalls_mono h ?_
 rintro y s' v' ⟨J, xO, xC, xL, xW, xD, cL, cW, cD, dO, dC, dL, dW, dD, rfl, h⟩
 obtain ⟨rfl, h2⟩ : y = _ ∧ _ := ⟨h.eq, h⟩
 exact k v' J xO xC xL xW xD cL cW cD dO dC dL dW dD h2.owners.cells h2.counts.cells h2.lockq.cells h2.waitq.cells h2.downq.cells h2
theorem OwnO.lay {s J : List AObj} {a b : AObj} {v v' : List Nat} {c : Cor} {y xO xC xL xW xD : LV} {cL cW cD : List LV} {dO dC dL dW dD : Nat}
  (h : OwnO ((s ++ [a, b]) ++ J) (s ++ [a, b]).length v v' c y xO xC xL xW xD cL cW cD ((s ++ [a, b]).length + dO) ((s ++ [a, b]).length + dC) ((s ++ [a, b]).length + dL) ((s ++ [a, b]).length + dW) ((s ++ [a, b]).length + dD)) :
  OwnO (s ++ (a :: b :: J)) (s.length + 2) v v' c y xO xC xL xW xD cL cW cD (s.length + (dO + 2)) (s.length + (dC + 2)) (s.length + (dL + 2)) (s.length + (dW + 2)) (s.length + (dD + 2)) := by
 have e1 : (s ++ [a, b]) ++ J = s ++ (a :: b :: J) := by simp
 have e2 : (s ++ [a, b]).length = s.length + 2 := by simp
 have e3 : ∀ d, s.length + 2 + d = s.length + (d + 2) := fun d => by omega
 rw [e1, e2, e3, e3, e3, e3, e3] at h
 exact h
theorem RowR.obj {s J : List AObj} {a b : AObj} {sz n d : Nat} {cs : List LV} {x : LV} (h : RowR (s ++ (a :: b :: J)) sz n cs x (s.length + (d + 2))) (h0 : n ≠ 0) : x = .ref sz (s.length + (d + 2)) 0 n false ∧ J[d]? = some (.cells cs) ∧ cs.length = n * sz ∧ cs ≠ [] := by
 rcases h with h | ⟨_, h2, h3, h4, h5⟩
 ·exact absurd h.1 h0
 ·exact ⟨h3, by rw [layB_get] at h4; exact h4, h5, h2⟩
theorem RowR.other {s J : List AObj} {a b a' b' o : AObj} {sz n d e : Nat} {cs : List LV} {x : LV} (h : RowR (s ++ (a :: b :: J)) sz n cs x (s.length + (d + 2))) (hne : n ≠ 0 → e ≠ d) : RowR (s ++ (a' :: b' :: J.set e o)) sz n cs x (s.length + (d + 2)) :=
 h.keep fun h0 => by rw [layB_get, layB_get, List.getElem?_set_ne (hne h0)]
theorem RowR.own {s J : List AObj} {a' b' : AObj} {sz n d : Nat} {cs : List LV} (hn : n ≠ 0) (hd : d < J.length) (hl : cs.length = n * sz) (hne : cs ≠ []) : RowR (s ++ (a' :: b' :: J.set d (.cells cs))) sz n cs (.ref sz (s.length + (d + 2)) 0 n false) (s.length + (d + 2)) :=
 .inr ⟨hn, hne, rfl, by rw [layB_get, List.getElem?_set_self hd], hl⟩
theorem rowCs_get {l : List Int} {i : Nat} (h : i < l.length) : (rowCs l)[i]? = some (.int .i64 (nth l i)) := by
 have h1 := rowCs_at h
 simp only [sz_int, Nat.mul_one, enc_int] at h1
 have h2 : (((rowCs l).drop i).take 1)[0]? = some (.int .i64 (nth l i)) := by rw [h1]; rfl
 rwa [List.getElem?_take_of_lt (by omega), List.getElem?_drop] at h2
structure OwnW (s J : List AObj) (a b : AObj) (c : Cor) (xO xC xL xW xD : LV) (cL cW cD : List LV) (dO dC dL dW dD : Nat) : Prop where
 owners : RowR (s ++ (a :: b :: J)) 1 c.owners.length (rowCs c.owners) xO (s.length + (dO + 2))
 counts : RowR (s ++ (a :: b :: J)) 1 c.counts.length (rowCs c.counts) xC (s.length + (dC + 2))
 lockq : RowR (s ++ (a :: b :: J)) 1 c.lockq.length cL xL (s.length + (dL + 2))
 waitq : RowR (s ++ (a :: b :: J)) 1 c.waitq.length cW xW (s.length + (dW + 2))
 downq : RowR (s ++ (a :: b :: J)) 1 c.downq.length cD xD (s.length + (dD + 2))
 gL : ListsW c.lockq cL
 gW : ListsW c.waitq cW
 gD : ListsW c.downq cD
 bO : c.owners.length ≠ 0 → dO < dC ∧ dO < dL ∧ dO < dW ∧ dO < dD
 bC : c.counts.length ≠ 0 → dC < dL ∧ dC < dW ∧ dC < dD
 bL : c.lockq.length ≠ 0 → dL < dW ∧ dL < dD
 bW : c.waitq.length ≠ 0 → dW < dD
theorem OwnO.w {s J : List AObj} {a b : AObj} {v v' : List Nat} {c : Cor} {y xO xC xL xW xD : LV} {cL cW cD : List LV} {dO dC dL dW dD : Nat}
  (h : OwnO (s ++ (a :: b :: J)) (s.length + 2) v v' c y xO xC xL xW xD cL cW cD (s.length + (dO + 2)) (s.length + (dC + 2)) (s.length + (dL + 2)) (s.length + (dW + 2)) (s.length + (dD + 2))) : OwnW s J a b c xO xC xL xW xD cL cW cD dO dC dL dW dD :=
 ⟨h.owners, h.counts, h.lockq, h.waitq, h.downq, h.gL.weak, h.gW.weak, h.gD.weak, fun h0 => by have := h.bO.2 h0; omega, fun h0 => by have := h.bC.2 h0; omega, fun h0 => by have := h.bL.2 h0; omega, fun h0 => by have := h.bW.2 h0; omega⟩
section
variable {s J : List AObj} {a b : AObj} {c : Cor} {xO xC xL xW xD : LV} {cL cW cD : List LV} {dO dC dL dW dD : Nat}
theorem OwnW.box (h : OwnW s J a b c xO xC xL xW xD cL cW cD dO dC dL dW dD) (a' b' : AObj) : OwnW s J a' b' c xO xC xL xW xD cL cW cD dO dC dL dW dD := by
 have key : ∀ {sz n d : Nat} {cs : List LV} {x : LV}, RowR (s ++ (a :: b :: J)) sz n cs x (s.length + (d + 2)) → RowR (s ++ (a' :: b' :: J)) sz n cs x (s.length + (d + 2)) := fun h => h.keep fun _ => by rw [layB_get, layB_get]
 exact ⟨key h.owners, key h.counts, key h.lockq, key h.waitq, key h.downq, h.gL, h.gW, h.gD, h.bO, h.bC, h.bL, h.bW⟩
theorem OwnW.more (h : OwnW s J a b c xO xC xL xW xD cL cW cD dO dC dL dW dD) (B : List AObj) : OwnW s (J ++ B) a b c xO xC xL xW xD cL cW cD dO dC dL dW dD := by
 have key : ∀ {sz n d : Nat} {cs : List LV} {x : LV}, RowR (s ++ (a :: b :: J)) sz n cs x (s.length + (d + 2)) → RowR (s ++ (a :: b :: (J ++ B))) sz n cs x (s.length + (d + 2)) := fun h => h.keep fun h0 => by
  have := h.lt h0
  simp at this
  rw [layB_get, layB_get, List.getElem?_append_left (by omega)]
 exact ⟨key h.owners, key h.counts, key h.lockq, key h.waitq, key h.downq, h.gL, h.gW, h.gD, h.bO, h.bC, h.bL, h.bW⟩
theorem OwnW.deep (h : OwnW s J a b c xO xC xL xW xD cL cW cD dO dC dL dW dD) : DeepV (s ++ (a :: b :: J)) s.length (.agg [.int .i64 c.now, row c.threads, xO, xC, row c.bufs, xL, xW, xD, row c.sendq, row c.recvq]) (.agg c.lv) :=
 core_deep h.owners h.counts h.lockq h.waitq h.downq h.gL h.gW h.gD (by omega) (by omega) (by omega) (by omega) (by omega)
theorem OwnW.setO (h : OwnW s J a b c xO xC xL xW xD cL cW cD dO dC dL dW dD) (h0 : c.owners.length ≠ 0) {l : List Int} (hl : l.length = c.owners.length) : OwnW s (J.set dO (.cells (rowCs l))) a b { c with owners := l } xO xC xL xW xD cL cW cD dO dC dL dW dD := by
 have hq := h.owners.lt h0
 simp at hq
 obtain ⟨e1, e2, e3, e4⟩ := h.owners.obj h0
 have bO := h.bO; have bC := h.bC; have bL := h.bL; have bW := h.bW
 refine ⟨?_, ?_, ?_, ?_, ?_, h.gL, h.gW, h.gD, fun _ => h.bO h0, h.bC, h.bL, h.bW⟩
 ·rw [e1]; show RowR _ 1 l.length (rowCs l) (.ref 1 _ 0 c.owners.length false) _; rw [← hl] at h0 ⊢
  exact RowR.own h0 (by omega) (by rw [rowCs_len]; rfl) (rowCs_ne (by simp) (fun e => h0 (by rw [e]; rfl)))
 ·exact h.counts.other (fun hn => by have := bO h0; omega)
 ·exact h.lockq.other (fun hn => by have := bO h0; omega)
 ·exact h.waitq.other (fun hn => by have := bO h0; omega)
 ·exact h.downq.other (fun hn => by have := bO h0; omega)
theorem OwnW.setC (h : OwnW s J a b c xO xC xL xW xD cL cW cD dO dC dL dW dD) (h0 : c.counts.length ≠ 0) {l : List Int} (hl : l.length = c.counts.length) : OwnW s (J.set dC (.cells (rowCs l))) a b { c with counts := l } xO xC xL xW xD cL cW cD dO dC dL dW dD := by
 have hq := h.counts.lt h0
 simp at hq
 obtain ⟨e1, e2, e3, e4⟩ := h.counts.obj h0
 have bO := h.bO; have bC := h.bC; have bL := h.bL; have bW := h.bW
 refine ⟨?_, ?_, ?_, ?_, ?_, h.gL, h.gW, h.gD, h.bO, fun _ => h.bC h0, h.bL, h.bW⟩
 ·exact h.owners.other (fun hn => by have := bO hn; omega)
 ·rw [e1]; show RowR _ 1 l.length (rowCs l) (.ref 1 _ 0 c.counts.length false) _; rw [← hl] at h0 ⊢
  exact RowR.own h0 (by omega) (by rw [rowCs_len]; rfl) (rowCs_ne (by simp) (fun e => h0 (by rw [e]; rfl)))
 ·exact h.lockq.other (fun hn => by have := bC h0; omega)
 ·exact h.waitq.other (fun hn => by have := bC h0; omega)
 ·exact h.downq.other (fun hn => by have := bC h0; omega)
theorem OwnW.setL (h : OwnW s J a b c xO xC xL xW xD cL cW cD dO dC dL dW dD) (h0 : c.lockq.length ≠ 0) {L : List (List Int)} {cs : List LV} (hl : L.length = c.lockq.length) (hw : ListsW L cs) : OwnW s (J.set dL (.cells cs)) a b { c with lockq := L } xO xC xL xW xD cs cW cD dO dC dL dW dD := by
 have hq := h.lockq.lt h0
 simp at hq
 obtain ⟨e1, e2, e3, e4⟩ := h.lockq.obj h0
 have bO := h.bO; have bC := h.bC; have bL := h.bL; have bW := h.bW
 refine ⟨?_, ?_, ?_, ?_, ?_, hw, h.gW, h.gD, h.bO, h.bC, fun _ => h.bL h0, h.bW⟩
 ·exact h.owners.other (fun hn => by have := bO hn; omega)
 ·exact h.counts.other (fun hn => by have := bC hn; omega)
 ·rw [e1]; show RowR _ 1 L.length cs (.ref 1 _ 0 c.lockq.length false) _; rw [← hl] at h0 ⊢
  exact RowR.own h0 (by omega) (by rw [hw.1]; omega) (fun e => h0 (by rw [← hw.1, e]; rfl))
 ·exact h.waitq.other (fun hn => by have := bL h0; omega)
 ·exact h.downq.other (fun hn => by have := bL h0; omega)
theorem OwnW.setW (h : OwnW s J a b c xO xC xL xW xD cL cW cD dO dC dL dW dD) (h0 : c.waitq.length ≠ 0) {L : List (List Int)} {cs : List LV} (hl : L.length = c.waitq.length) (hw : ListsW L cs) : OwnW s (J.set dW (.cells cs)) a b { c with waitq := L } xO xC xL xW xD cL cs cD dO dC dL dW dD := by
 have hq := h.waitq.lt h0
 simp at hq
 obtain ⟨e1, e2, e3, e4⟩ := h.waitq.obj h0
 have bO := h.bO; have bC := h.bC; have bL := h.bL; have bW := h.bW
 refine ⟨?_, ?_, ?_, ?_, ?_, h.gL, hw, h.gD, h.bO, h.bC, h.bL, fun _ => h.bW h0⟩
 ·exact h.owners.other (fun hn => by have := bO hn; omega)
 ·exact h.counts.other (fun hn => by have := bC hn; omega)
 ·exact h.lockq.other (fun hn => by have := bL hn; omega)
 ·rw [e1]; show RowR _ 1 L.length cs (.ref 1 _ 0 c.waitq.length false) _; rw [← hl] at h0 ⊢
  exact RowR.own h0 (by omega) (by rw [hw.1]; omega) (fun e => h0 (by rw [← hw.1, e]; rfl))
 ·exact h.downq.other (fun hn => by have := bW h0; omega)
theorem OwnW.setD (h : OwnW s J a b c xO xC xL xW xD cL cW cD dO dC dL dW dD) (h0 : c.downq.length ≠ 0) {L : List (List Int)} {cs : List LV} (hl : L.length = c.downq.length) (hw : ListsW L cs) : OwnW s (J.set dD (.cells cs)) a b { c with downq := L } xO xC xL xW xD cL cW cs dO dC dL dW dD := by
 have hq := h.downq.lt h0
 simp at hq
 obtain ⟨e1, e2, e3, e4⟩ := h.downq.obj h0
 have bO := h.bO; have bC := h.bC; have bL := h.bL; have bW := h.bW
 refine ⟨?_, ?_, ?_, ?_, ?_, h.gL, h.gW, hw, h.bO, h.bC, h.bL, h.bW⟩
 ·exact h.owners.other (fun hn => by have := bO hn; omega)
 ·exact h.counts.other (fun hn => by have := bC hn; omega)
 ·exact h.lockq.other (fun hn => by have := bL hn; omega)
 ·exact h.waitq.other (fun hn => by have := bW hn; omega)
 ·rw [e1]; show RowR _ 1 L.length cs (.ref 1 _ 0 c.downq.length false) _; rw [← hl] at h0 ⊢
  exact RowR.own h0 (by omega) (by rw [hw.1]; omega) (fun e => h0 (by rw [← hw.1, e]; rfl))
end
theorem OwnW.lift {s J : List AObj} {a b p q : AObj} {c : Cor} {xO xC xL xW xD : LV} {cL cW cD : List LV} {dO dC dL dW dD : Nat} (h : OwnW (s ++ [p, q]) J a b c xO xC xL xW xD cL cW cD dO dC dL dW dD) :
  OwnW s (a :: b :: J) p q c xO xC xL xW xD cL cW cD (dO + 2) (dC + 2) (dL + 2) (dW + 2) (dD + 2) := by
 have key : ∀ {sz n d : Nat} {cs : List LV} {x : LV}, RowR ((s ++ [p, q]) ++ (a :: b :: J)) sz n cs x ((s ++ [p, q]).length + (d + 2)) → RowR (s ++ (p :: q :: a :: b :: J)) sz n cs x (s.length + (d + 2 + 2)) := fun h => h.eq (by simp) (by simp; omega)
 exact ⟨key h.owners, key h.counts, key h.lockq, key h.waitq, key h.downq, h.gL, h.gW, h.gD, fun h0 => by have := h.bO h0; omega, fun h0 => by have := h.bC h0; omega, fun h0 => by have := h.bL h0; omega, fun h0 => by have := h.bW h0; omega⟩
theorem OwnW.cast {s J J' : List AObj} {a b : AObj} {c : Cor} {xO xC xL xW xD : LV} {cL cW cD : List LV} {dO dC dL dW dD : Nat} (h : OwnW s J a b c xO xC xL xW xD cL cW cD dO dC dL dW dD) (e : J = J') : OwnW s J' a b c xO xC xL xW xD cL cW cD dO dC dL dW dD := e ▸ h
theorem row_frz {P : Program} {f : FuncId} {v : List Nat} {K : LV → List AObj → List Nat → Prop} {S : List AObj} {n id : Nat} {cs : List LV} {x : LV} (A : LV → List LV) (h : RowR S 1 n cs x id) (hA : ∀ id cs x y, Frz id cs x y → Frzs id cs (A x) (A y))
  (k : ∀ S', S'.length = S.length → (∀ j, (n ≠ 0 → j ≠ id) → S'[j]? = S[j]?) → aCalls P f (A (if n = 0 then .nils else .imm 1 n cs .no)) S' v K) : aCalls P f (A x) S v K := by
 rcases h with ⟨rfl, rfl, rfl⟩ | ⟨h1, h2, rfl, h4, h5⟩
 ·exact k S rfl fun _ _ => rfl
 ·have hk := k (S.set id (.cells [])) (by simp) fun j hj => List.getElem?_set_ne (fun e => hj h1 e.symm)
  rw [if_neg h1] at hk
  refine aCalls_frz1 h4 h2 (hA _ _ _ _ ?_) hk
  have := Frz.ref (id := id) (cs := cs) (sz := 1) (off := 0) (len := n) (fl := false) (by omega)
  rwa [List.drop_zero, List.take_of_length_le (by omega)] at this
theorem ListsW.weaks : ∀ {L : List (List Int)} {xs : List LV}, ListsW L xs → Weaks xs (rowCs L)
 | [], [], _ => trivial
 | [], _ :: _, h => by simp [ListsW] at h
 | _ :: _, [], h => by simp [ListsW] at h
 | l :: L, x :: xs, h => by
  obtain ⟨x', h1, h2, h3⟩ := h.2 0 (by simp)
  simp at h1; subst h1
  rw [rowCs_cons]
  refine ⟨h2, ListsW.weaks ⟨by simpa using h.1, fun i hi => ?_⟩⟩
  obtain ⟨y, q1, q2⟩ := h.2 (i + 1) (by simpa using hi)
  exact ⟨y, by simpa using q1, q2⟩
theorem frz_weak {α : Type} [Enc α] (hsz : Enc.sz α = 1) {l : List α} {n : Nat} {cs : List LV} (hn : n = l.length) (h : Weaks cs (rowCs l)) : Weak (if n = 0 then .nils else .imm 1 n cs .no) (row l) := by
 subst hn
 split
 ·rename_i h0
  have : l = [] := List.length_eq_zero_iff.1 h0
  subst this
  exact Weak.nilrow
 ·have := Weak.row (r := .no) h rfl
  rwa [hsz] at this
theorem OwnW.call {P : Program} {f : FuncId} {v : List Nat} {K : LV → List AObj → List Nat → Prop} {rest : List LV} {s J : List AObj} {a b : AObj} {c : Cor} {xO xC xL xW xD : LV} {cL cW cD : List LV} {dO dC dL dW dD : Nat} (h : OwnW s J a b c xO xC xL xW xD cL cW cD dO dC dL dW dD)
  (k : ∀ J', J'.length = J.length → aCalls P f (.agg c.lv :: rest) (s ++ (a :: b :: J')) v K) :
  aCalls P f (.agg [.int .i64 c.now, row c.threads, xO, xC, row c.bufs, xL, xW, xD, row c.sendq, row c.recvq] :: rest) (s ++ (a :: b :: J)) v K := by
 have R := @Frz.refl
 have bO := h.bO; have bC := h.bC; have bL := h.bL; have bW := h.bW
 refine row_frz (fun x => .agg [.int .i64 c.now, row c.threads, x, xC, row c.bufs, xL, xW, xD, row c.sendq, row c.recvq] :: rest) h.owners (fun id cs x y hf => ⟨Frz.agg ⟨R _ _ _, R _ _ _, hf, R _ _ _, R _ _ _, R _ _ _, R _ _ _, R _ _ _, R _ _ _, R _ _ _, trivial⟩, Frzs.refl _ _ _⟩) fun S1 l1 q1 => ?_
 refine row_frz (fun x => .agg [.int .i64 c.now, row c.threads, _, x, row c.bufs, xL, xW, xD, row c.sendq, row c.recvq] :: rest) (h.counts.keep (fun h0 => q1 _ (fun h1 => by have := bO h1; omega))) (fun id cs x y hf => ⟨Frz.agg ⟨R _ _ _, R _ _ _, R _ _ _, hf, R _ _ _, R _ _ _, R _ _ _, R _ _ _, R _ _ _, R _ _ _, trivial⟩, Frzs.refl _ _ _⟩) fun S2 l2 q2 => ?_
 refine row_frz (fun x => .agg [.int .i64 c.now, row c.threads, _, _, row c.bufs, x, xW, xD, row c.sendq, row c.recvq] :: rest) (h.lockq.keep (fun h0 => (q2 _ (fun h1 => by have := bC h1; omega)).trans (q1 _ (fun h1 => by have := bO h1; omega)))) (fun id cs x y hf => ⟨Frz.agg ⟨R _ _ _, R _ _ _, R _ _ _, R _ _ _, R _ _ _, hf, R _ _ _, R _ _ _, R _ _ _, R _ _ _, trivial⟩, Frzs.refl _ _ _⟩) fun S3 l3 q3 => ?_
 refine row_frz (fun x => .agg [.int .i64 c.now, row c.threads, _, _, row c.bufs, _, x, xD, row c.sendq, row c.recvq] :: rest) (h.waitq.keep (fun h0 => ((q3 _ (fun h1 => by have := bL h1; omega)).trans (q2 _ (fun h1 => by have := bC h1; omega))).trans (q1 _ (fun h1 => by have := bO h1; omega)))) (fun id cs x y hf => ⟨Frz.agg ⟨R _ _ _, R _ _ _, R _ _ _, R _ _ _, R _ _ _, R _ _ _, hf, R _ _ _, R _ _ _, R _ _ _, trivial⟩, Frzs.refl _ _ _⟩) fun S4 l4 q4 => ?_
 refine row_frz (fun x => .agg [.int .i64 c.now, row c.threads, _, _, row c.bufs, _, _, x, row c.sendq, row c.recvq] :: rest) (h.downq.keep (fun h0 => (((q4 _ (fun h1 => by have := bW h1; omega)).trans (q3 _ (fun h1 => by have := bL h1; omega))).trans (q2 _ (fun h1 => by have := bC h1; omega))).trans (q1 _ (fun h1 => by have := bO h1; omega)))) (fun id cs x y hf => ⟨Frz.agg ⟨R _ _ _, R _ _ _, R _ _ _, R _ _ _, R _ _ _, R _ _ _, R _ _ _, hf, R _ _ _, R _ _ _, trivial⟩, Frzs.refl _ _ _⟩) fun S5 l5 q5 => ?_
 have hS : ∃ J', J'.length = J.length ∧ S5 = s ++ (a :: b :: J') := by
  have hq : ∀ j, j < s.length + 2 → S5[j]? = (s ++ (a :: b :: J))[j]? := fun j hj =>
   ((((q5 _ (fun _ => by omega)).trans (q4 _ (fun _ => by omega))).trans (q3 _ (fun _ => by omega))).trans (q2 _ (fun _ => by omega))).trans (q1 _ (fun _ => by omega))
  have hl : S5.length = s.length + (J.length + 2) := by rw [l5, l4, l3, l2, l1]; simp
  refine ⟨S5.drop (s.length + 2), by rw [List.length_drop]; omega, List.ext_getElem? fun j => ?_⟩
  by_cases hj : j < s.length + 2
  ·rw [hq j hj]
   by_cases hj2 : j < s.length
   ·rw [List.getElem?_append_left hj2, List.getElem?_append_left hj2]
   ·rw [List.getElem?_append_right (by omega), List.getElem?_append_right (by omega)]
    rcases Nat.lt_or_ge (j - s.length) 1 with h1 | h1
    ·rw [show j - s.length = 0 by omega]; rfl
    ·rw [show j - s.length = 1 by omega]; rfl
  ·obtain ⟨d, rfl⟩ : ∃ d, j = s.length + (d + 2) := ⟨j - (s.length + 2), by omega⟩
   rw [layB_get, List.getElem?_drop]
   congr 1; omega
 obtain ⟨J', hl, rfl⟩ := hS
 refine aCalls_argw ?_ (k J' hl)
 exact ⟨Weak.agg ⟨Weak.refl _, Weak.refl _, frz_weak rfl rfl (Weaks.refl _), frz_weak rfl rfl (Weaks.refl _), Weak.refl _, frz_weak rfl rfl h.gL.weaks, frz_weak rfl rfl h.gW.weaks, frz_weak rfl rfl h.gD.weaks, Weak.refl _, Weak.refl _, trivial⟩, Weaks.refl _⟩
end Go.Hb
end

section
namespace Go.Hb
open Go
structure ChO (S : List AObj) (b : Nat) (v0 v : List Nat) (c : Cor) (y xB xS xR : LV) (cB cS cR : List LV) (iB iS iR : Nat) : Prop where
 eq : y = .agg [.int .i64 c.now, row c.threads, row c.owners, row c.counts, xB, row c.lockq, row c.waitq, row c.downq, xS, xR]
 bufs : RowR S 1 c.bufs.length cB xB iB
 sendq : RowR S 1 c.sendq.length cS xS iS
 recvq : RowR S 1 c.recvq.length cR xR iR
 gB : ListsG v0 v c.bufs cB
 gS : ListsG v0 v c.sendq cS
 gR : ListsG v0 v c.recvq cR
 bB : b ≤ iB ∧ (c.bufs.length ≠ 0 → iB < iS ∧ iB < iR)
 bS : b ≤ iS ∧ (c.sendq.length ≠ 0 → iS < iR)
 bR : b ≤ iR
def ChR (c : Cor) (s : List AObj) (v : List Nat) (y : LV) (s' : List AObj) (v' : List Nat) : Prop :=
 ∃ J xB xS xR cB cS cR dB dS dR, s ++ J = s' ∧ ChO s' s.length v v' c y xB xS xR cB cS cR (s.length + dB) (s.length + dS) (s.length + dR)
theorem callCh {P : Program} {c : Cor} {f : FuncId} {args : List LV} {s : List AObj} {v : List Nat} {K : LV → List AObj → List Nat → Prop} (h : aCalls P f args s v (ChR c s v))
  (k : ∀ v' J xB xS xR cB cS cR dB dS dR, (xB.cells = [xB] ∧ xB.cellsOk = true) → (xS.cells = [xS] ∧ xS.cellsOk = true) → (xR.cells = [xR] ∧ xR.cellsOk = true) →
   ChO (s ++ J) s.length v v' c (.agg [.int .i64 c.now, row c.threads, row c.owners, row c.counts, xB, row c.lockq, row c.waitq, row c.downq, xS, xR]) xB xS xR cB cS cR (s.length + dB) (s.length + dS) (s.length + dR) →
   K (.agg [.int .i64 c.now, row c.threads, row c.owners, row c.counts, xB, row c.lockq, row c.waitq, row c.downq, xS, xR]) (s ++ J) v') : aCalls P f args s v K := by
 refine aCalls_mono h ?_
 rintro y s' v' ⟨J, xB, xS, xR, cB, cS, cR, dB, dS, dR, rfl, h⟩
 obtain ⟨rfl, h2⟩ : y = _ ∧ _ := ⟨h.eq, h⟩
 exact k v' J xB xS xR cB cS cR dB dS dR h2.bufs.cells h2.sendq.cells h2.recvq.cells h2
theorem ChO.lay {s J : List AObj} {a b : AObj} {v v' : List Nat} {c : Cor} {y xB xS xR : LV} {cB cS cR : List LV} {dB dS dR : Nat}
  (h : ChO ((s ++ [a, b]) ++ J) (s ++ [a, b]).length v v' c y xB xS xR cB cS cR ((s ++ [a, b]).length + dB) ((s ++ [a, b]).length + dS) ((s ++ [a, b]).length + dR)) :
  ChO (s ++ (a :: b :: J)) (s.length + 2) v v' c y xB xS xR cB cS cR (s.length + (dB + 2)) (s.length + (dS + 2)) (s.length + (dR + 2)) := by
 have e1 : (s ++ [a, b]) ++ J = s ++ (a :: b :: J) := by simp
 have e2 : (s ++ [a, b]).length = s.length + 2 := by simp
 have e3 : ∀ d, s.length + 2 + d = s.length + (d + 2) := fun d => by omega
 rw [e1, e2, e3, e3, e3] at h
 exact h
structure ChW (s J : List AObj) (a b : AObj) (c : Cor) (xB xS xR : LV) (cB cS cR : List LV) (dB dS dR : Nat) : Prop where
 bufs : RowR (s ++ (a :: b :: J)) 1 c.bufs.length cB xB (s.length + (dB + 2))
 sendq : RowR (s ++ (a :: b :: J)) 1 c.sendq.length cS xS (s.length + (dS + 2))
 recvq : RowR (s ++ (a :: b :: J)) 1 c.recvq.length cR xR (s.length + (dR + 2))
 gB : ListsW c.bufs cB
 gS : ListsW c.sendq cS
 gR : ListsW c.recvq cR
 bB : c.bufs.length ≠ 0 → dB < dS ∧ dB < dR
 bS : c.sendq.length ≠ 0 → dS < dR
theorem ChO.w {s J : List AObj} {a b : AObj} {v v' : List Nat} {c : Cor} {y xB xS xR : LV} {cB cS cR : List LV} {dB dS dR : Nat}
  (h : ChO (s ++ (a :: b :: J)) (s.length + 2) v v' c y xB xS xR cB cS cR (s.length + (dB + 2)) (s.length + (dS + 2)) (s.length + (dR + 2))) : ChW s J a b c xB xS xR cB cS cR dB dS dR :=
 ⟨h.bufs, h.sendq, h.recvq, h.gB.weak, h.gS.weak, h.gR.weak, fun h0 => by have := h.bB.2 h0; omega, fun h0 => by have := h.bS.2 h0; omega⟩
section
variable {s J : List AObj} {a b : AObj} {c : Cor} {xB xS xR : LV} {cB cS cR : List LV} {dB dS dR : Nat}
theorem ChW.box (h : ChW s J a b c xB xS xR cB cS cR dB dS dR) (a' b' : AObj) : ChW s J a' b' c xB xS xR cB cS cR dB dS dR := by
 have key : ∀ {sz n d : Nat} {cs : List LV} {x : LV}, RowR (s ++ (a :: b :: J)) sz n cs x (s.length + (d + 2)) → RowR (s ++ (a' :: b' :: J)) sz n cs x (s.length + (d + 2)) := fun h => h.keep fun _ => by rw [layB_get, layB_get]
 exact ⟨key h.bufs, key h.sendq, key h.recvq, h.gB, h.gS, h.gR, h.bB, h.bS⟩
theorem ChW.more (h : ChW s J a b c xB xS xR cB cS cR dB dS dR) (B : List AObj) : ChW s (J ++ B) a b c xB xS xR cB cS cR dB dS dR := by
 have key : ∀ {sz n d : Nat} {cs : List LV} {x : LV}, RowR (s ++ (a :: b :: J)) sz n cs x (s.length + (d + 2)) → RowR (s ++ (a :: b :: (J ++ B))) sz n cs x (s.length + (d + 2)) := fun h => h.keep fun h0 => by
  have := h.lt h0
  simp at this
  rw [layB_get, layB_get, List.getElem?_append_left (by omega)]
 exact ⟨key h.bufs, key h.sendq, key h.recvq, h.gB, h.gS, h.gR, h.bB, h.bS⟩
theorem ChW.deep (h : ChW s J a b c xB xS xR cB cS cR dB dS dR) : DeepV (s ++ (a :: b :: J)) s.length (.agg [.int .i64 c.now, row c.threads, row c.owners, row c.counts, xB, row c.lockq, row c.waitq, row c.downq, xS, xR]) (.agg c.lv) :=
 .agg _ _ (.cons _ _ _ _ (.keep _ rfl) (.cons _ _ _ _ (.keep _ (by simp)) (.cons _ _ _ _ (.keep _ (by simp)) (.cons _ _ _ _ (.keep _ (by simp)) (.cons _ _ _ _ (RowR.deep (α := List Int) h.bufs (by omega) h.gB.deep)
  (.cons _ _ _ _ (.keep _ (by simp)) (.cons _ _ _ _ (.keep _ (by simp)) (.cons _ _ _ _ (.keep _ (by simp)) (.cons _ _ _ _ (RowR.deep (α := List Int) h.sendq (by omega) h.gS.deep) (.cons _ _ _ _ (RowR.deep (α := List Int) h.recvq (by omega) h.gR.deep) .nil))))))))))
theorem ChW.setB (h : ChW s J a b c xB xS xR cB cS cR dB dS dR) (h0 : c.bufs.length ≠ 0) {L : List (List Int)} {cs : List LV} (hl : L.length = c.bufs.length) (hw : ListsW L cs) : ChW s (J.set dB (.cells cs)) a b { c with bufs := L } xB xS xR cs cS cR dB dS dR := by
 have hq := h.bufs.lt h0
 simp at hq
 have e1 := (h.bufs.obj h0).1
 have bB := h.bB; have bS := h.bS
 refine ⟨?_, ?_, ?_, hw, h.gS, h.gR, fun _ => h.bB h0, h.bS⟩
 ·rw [e1]; show RowR _ 1 L.length cs (.ref 1 _ 0 c.bufs.length false) _; rw [← hl] at h0 ⊢
  exact RowR.own h0 (by omega) (by rw [hw.1]; omega) (fun e => h0 (by rw [← hw.1, e]; rfl))
 ·exact h.sendq.other (fun hn => by have := bB h0; omega)
 ·exact h.recvq.other (fun hn => by have := bB h0; omega)
theorem ChW.setS (h : ChW s J a b c xB xS xR cB cS cR dB dS dR) (h0 : c.sendq.length ≠ 0) {L : List (List Int)} {cs : List LV} (hl : L.length = c.sendq.length) (hw : ListsW L cs) : ChW s (J.set dS (.cells cs)) a b { c with sendq := L } xB xS xR cB cs cR dB dS dR := by
 have hq := h.sendq.lt h0
 simp at hq
 have e1 := (h.sendq.obj h0).1
 have bB := h.bB; have bS := h.bS
 refine ⟨?_, ?_, ?_, h.gB, hw, h.gR, h.bB, fun _ => h.bS h0⟩
 ·exact h.bufs.other (fun hn => by have := bB hn; omega)
 ·rw [e1]; show RowR _ 1 L.length cs (.ref 1 _ 0 c.sendq.length false) _; rw [← hl] at h0 ⊢
  exact RowR.own h0 (by omega) (by rw [hw.1]; omega) (fun e => h0 (by rw [← hw.1, e]; rfl))
 ·exact h.recvq.other (fun hn => by have := bS h0; omega)
theorem ChW.setR (h : ChW s J a b c xB xS xR cB cS cR dB dS dR) (h0 : c.recvq.length ≠ 0) {L : List (List Int)} {cs : List LV} (hl : L.length = c.recvq.length) (hw : ListsW L cs) : ChW s (J.set dR (.cells cs)) a b { c with recvq := L } xB xS xR cB cS cs dB dS dR := by
 have hq := h.recvq.lt h0
 simp at hq
 have e1 := (h.recvq.obj h0).1
 have bB := h.bB; have bS := h.bS
 refine ⟨?_, ?_, ?_, h.gB, h.gS, hw, h.bB, h.bS⟩
 ·exact h.bufs.other (fun hn => by have := bB hn; omega)
 ·exact h.sendq.other (fun hn => by have := bS hn; omega)
 ·rw [e1]; show RowR _ 1 L.length cs (.ref 1 _ 0 c.recvq.length false) _; rw [← hl] at h0 ⊢
  exact RowR.own h0 (by omega) (by rw [hw.1]; omega) (fun e => h0 (by rw [← hw.1, e]; rfl))
end
theorem GroE.push2 {P : Program} {t t2 : TypeId} {by_ : Nat} (hok : appOk P t t2 1 by_ = true) (hby : by_ ≤ 1000) {v0 v : List Nat} {l : List Int} {x : LV} (h : GroE v0 v l x) (a b : Int) (hb : l.length + 2 ≤ 100000000) :
  ∃ x' v', GroE v0 v' (l ++ [a, b]) x' ∧ Keep x v v' ∧ ∀ r s, aAppend P t t2 x (.imm 1 2 [.int .i64 a, .int .i64 b] r) s v = some (x', v') := by
 have hm : (l.length + 2) * by_ ≤ 100000000 * 1000 := Nat.mul_le_mul hb hby
 obtain ⟨x', v', h1, h2, h3⟩ := GroC.app (P := P) (m := 2) (ds := [.int .i64 a, .int .i64 b]) hok h (by simp) (by unfold maxLen; omega) (by omega)
 exact ⟨x', v', by unfold GroE; rw [rowCs_app]; simpa [rowCs_cons] using h1, h2, fun r s => h3 _ s (by simp [aCells])⟩
theorem GroE.pushT {P : Program} {t t2 : TypeId} {by_ : Nat} (hok : appOk P t t2 1 by_ = true) (hby : by_ ≤ 1000) {v0 v : List Nat} {l : List Int} {x : LV} (h : GroE v0 v l x) (a : Int) (hb : l.length + 1 ≤ 100000000) :
  ∃ x' v', GroE v0 v' (l ++ [a]) x' ∧ (∀ g e, v[g]? = some e → tipOf x ≠ some g → v'[g]? = some e) ∧ (∀ g, tipOf x' = some g → tipOf x = some g ∨ v.length ≤ g) ∧ ∀ r s, aAppend P t t2 x (.imm 1 1 [.int .i64 a] r) s v = some (x', v') := by
 obtain ⟨x', v', h1, h2, h3⟩ := h.push (P := P) (t := t) (t2 := t2) (sz := 1) (by_ := by_) hok rfl hby a hb
 refine ⟨x', v', h1, fun g e hg ht => h2.2 g e hg fun sz n cs e' hx => ht (by rw [hx]; rfl), fun g hg => ?_, fun r s => h3 r s⟩
 rcases h.2 with ⟨e0, e1, hx⟩ | ⟨g', e, hg1, rfl, hv⟩
 ·right
  have hl : l = [] := List.length_eq_zero_iff.1 e0
  subst hl
  have hn : GroE v v ([] : List Int) x := ⟨List.prefix_refl _, .inl ⟨rfl, rfl, hx⟩⟩
  obtain ⟨x2, v2, k1, k2, k3⟩ := hn.push (P := P) (t := t) (t2 := t2) (sz := 1) (by_ := by_) hok rfl hby a hb
  have e := (h3 .no []).symm.trans (k3 .no [])
  simp only [Option.some.injEq, Prod.mk.injEq] at e
  obtain ⟨rfl, rfl⟩ := e
  exact (tip_lt k1 hg).1
 ·left
  have e := h3 .no []
  unfold appOk at hok
  split at hok
  rotate_left
  ·cases hok
  rename_i e2 hu
  simp only [Bool.and_eq_true] at hok
  obtain ⟨⟨⟨hs, hb1⟩, hn⟩, hz⟩ := hok
  cases hs' : szT P e2 with
  | none => rw [hs'] at hs; cases hs
  | some s' =>
  rw [hs'] at hs; simp at hs; subst hs
  cases hb' : bytesT P e2 with
  | none => rw [hb'] at hb1; cases hb1
  | some b' =>
  rw [hb'] at hb1; simp at hb1; subst hb1
  cases hz' : zeroT P e2 with
  | none => rw [hz'] at hz; cases hz
  | some z =>
  rw [hz'] at hz; simp only [Bool.and_eq_true, beq_iff_eq] at hz
  unfold aAppend at e
  simp only [hu, hs', hb', hz'] at e
  rw [if_pos ⟨hn, hz.1, hz.2⟩] at e
  simp only [sz_int, aHead, if_true, aCells, grow, hv] at e
  split at e
  ·simp at e
   rw [← e.1] at hg
   simpa [tipOf] using hg
  ·cases e
theorem nth_set' {L : List (List Int)} {k i : Nat} (hk : k < L.length) (l : List Int) : nth (L.set k l) i = if k = i then l else nth L i := by
 by_cases e : k = i
 ·subst e; rw [if_pos rfl]; exact nth_set hk _
 ·rw [if_neg e]; exact nth_set_ne e _
theorem ListsG.push {P : Program} {t t2 : TypeId} {by_ : Nat} (hok : appOk P t t2 1 by_ = true) (hby : by_ ≤ 1000) {v0 v : List Nat} {L : List (List Int)} {xs : List LV} (h : ListsG v0 v L xs) {k : Nat} (hk : k < L.length) (a : Int) (hb : (nth L k).length + 1 ≤ 100000000) :
  ∃ x x' v', xs[k]? = some x ∧ (x.cells = [x] ∧ x.cellsOk = true) ∧ (x'.cells = [x'] ∧ x'.cellsOk = true) ∧ ListsG v0 v' (L.set k (nth L k ++ [a])) (xs.set k x') ∧ ∀ r s, aAppend P t t2 x (.imm 1 1 [.int .i64 a] r) s v = some (x', v') := by
 obtain ⟨x, h1, h2⟩ := h.at_ k hk
 obtain ⟨x', v', g1, g2, g3, g4⟩ := h2.pushT (P := P) (t := t) (t2 := t2) (by_ := by_) hok hby a hb
 have hkx : k < xs.length := by rw [h.len]; exact hk
 have hold : ∀ {i : Nat} {y : LV} {g : Nat}, xs[i]? = some y → tipOf y = some g → g < v.length := fun {i y g} hi ht => by
  have hi' := (List.getElem?_eq_some_iff.1 hi).1
  obtain ⟨y', e1, e2⟩ := h.at_ i (by rw [← h.len]; exact hi')
  rw [hi] at e1; cases e1
  exact (tip_lt e2 ht).2
 refine ⟨x, x', v', h1, h2.gro.cells, g1.gro.cells, ⟨by simp [h.len], fun i hi => ?_, g1.1, fun i j a b g hij ha hb' ht => ?_⟩, g4⟩
 ·simp at hi
  rw [nth_set' hk]
  by_cases e : k = i
  ·subst e
   rw [if_pos rfl]
   exact ⟨x', by rw [List.getElem?_set_self hkx], g1⟩
  ·rw [if_neg e]
   obtain ⟨y, q1, q2⟩ := h.at_ i hi
   refine ⟨y, by rw [List.getElem?_set_ne e]; exact q1, g1.1, ?_⟩
   rcases q2.2 with q | ⟨g, e2, r1, rfl, r3⟩
   ·exact .inl q
   ·exact .inr ⟨g, e2, r1, rfl, g2 g e2 r3 fun hc => h.dis k i x _ g e h1 q1 hc rfl⟩
 ·by_cases ei : k = i <;> by_cases ej : k = j
  ·omega
  ·subst ei
   rw [List.getElem?_set_self hkx] at ha; cases ha
   rw [List.getElem?_set_ne ej] at hb'
   rcases g3 g ht with hg | hg
   ·exact h.dis k j x b g hij h1 hb' hg
   ·intro hc; have := hold hb' hc; omega
  ·subst ej
   rw [List.getElem?_set_self hkx] at hb'; cases hb'
   rw [List.getElem?_set_ne ei] at ha
   intro hc
   rcases g3 g hc with hg | hg
   ·exact h.dis i k a x g hij ha h1 ht hg
   ·have := hold ha ht; omega
  ·rw [List.getElem?_set_ne ei] at ha
   rw [List.getElem?_set_ne ej] at hb'
   exact h.dis i j a b g hij ha hb' ht
end Go.Hb
end

section
namespace Go.Hb
open Go
theorem thr_set : ∀ (l : List Thr) (k : Nat) (x : Thr), k < l.length → setAt (rowCs l) (k * 5) [.int .i64 x.state, .int .i64 x.on, row x.frames, row x.stack, .int .i64 x.code] = rowCs (l.set k x)
 | i :: l, 0, x, _ => by simp [rowCs_cons, setAt]
 | i :: l, k + 1, x, h => by
  have ih := thr_set l k x (by simpa using h)
  rw [List.set_cons_succ, rowCs_cons, rowCs_cons, ← ih]
  have e : (k + 1) * 5 = k * 5 + 1 + 1 + 1 + 1 + 1 := by omega
  simp only [setAt, enc_thr, e, List.cons_append, List.nil_append, List.set_cons_succ]
end Go.Hb
end

section
namespace Go.Hb
open Go
def is2 (t : Thr) : Bool := decide (t.state = 2)
def count2 (c : Cor) : Nat := c.threads.countP is2
theorem countP_set' (l : List Thr) (p : Thr → Bool) (x : Thr) : ∀ k, k < l.length → (l.set k x).countP p + (if p (nth l k) = true then 1 else 0) = l.countP p + (if p x = true then 1 else 0) := by
 induction l with
 | nil => intro k h; simp at h
 | cons a l ih =>
  intro k h
  cases k with
  | zero =>
   rw [List.set_cons_zero, List.countP_cons, List.countP_cons, show nth (a :: l) 0 = a from rfl]; omega
  | succ k =>
   have := ih k (by simpa using h)
   rw [List.set_cons_succ, List.countP_cons, List.countP_cons, show nth (a :: l) (k + 1) = nth l k by simp [nth]]; omega
theorem count2_with {c : Cor} {t : Int} {x : Thr} (h0 : 0 ≤ t) (h1 : t < c.threads.length) : count2 (withT c t x) + (if (at' c.threads t).state = 2 then 1 else 0) = count2 c + (if x.state = 2 then 1 else 0) := by
 have := countP_set' c.threads is2 x t.toNat (by omega)
 have e : ∀ y : Thr, (if is2 y = true then 1 else 0 : Nat) = (if y.state = 2 then 1 else 0) := fun y => by unfold is2; by_cases h : y.state = 2 <;> simp [h]
 rw [e, e] at this
 exact this
structure XsB (B : Nat) (x : Xs) : Prop where
 n : x.c.threads.length ≤ 1000
 thr : ∀ th ∈ x.c.threads, ThrB th
 seen : x.seen.length + count2 x.c ≤ B
 woken : x.woken.length + count2 x.c ≤ B
theorem thrEnd_b (c : Int) : ThrB (thrEnd c) := ⟨by simp [thrEnd], by simp [thrEnd], by simp [thrEnd]⟩
theorem withT_thr {c : Cor} {t : Int} {x : Thr} (h : ∀ th ∈ c.threads, ThrB th) (hx : ThrB x) : ∀ th ∈ (withT c t x).threads, ThrB th := fun th hth => by
 rcases List.mem_or_eq_of_mem_set hth with hth | rfl
 ·exact h th hth
 ·exact hx
theorem thrTell_b : ∀ (l : List Int) (t : Thr), ThrB t → ThrB (thrTell t l).1
 | [], t, h => h
 | v :: l, t, h => by
  unfold thrTell
  split
  ·exact thrTell_b l _ (push_b h v)
  ·exact thrEnd_b 2
theorem push_state (t : Thr) (v : Int) : (push t v).1.state = t.state ∧ (push t v).1.on = t.on := by unfold push; split <;> exact ⟨rfl, rfl⟩
theorem thrTell_state : ∀ (l : List Int) (t : Thr), (thrTell t l).2 = true → (thrTell t l).1.state = t.state ∧ (thrTell t l).1.on = t.on
 | [], t, _ => ⟨rfl, rfl⟩
 | v :: l, t, h => by
  unfold thrTell at h ⊢
  split
  ·rename_i hp
   rw [if_pos hp] at h
   have := thrTell_state l _ h
   exact ⟨this.1.trans (push_state t v).1, this.2.trans (push_state t v).2⟩
  ·rename_i hp
   rw [if_neg hp] at h; cases h
end Go.Hb
end

section
namespace Go.Hb
open Go
theorem endL_app (n : Nat) (code t : Int) : ∀ (a b : List Nat) (x : Xs), endL n code t (a ++ b) x = endL n code t b (endL n code t a x)
 | [], b, x => by simp [endL]
 | k :: a, b, x => by
  rw [List.cons_append, endL, endL]
  exact endL_app n code t a b _
structure Keeps (B : Nat) (x y : Xs) : Prop where
 b : XsB B y
 len : y.c.threads.length = x.c.threads.length
 c2 : count2 y.c ≤ count2 x.c
 p : y.p = x.p
 t : y.t = x.t
theorem Keeps.refl {B : Nat} {x : Xs} (h : XsB B x) : Keeps B x x := ⟨h, rfl, Nat.le_refl _, rfl, rfl⟩
theorem Keeps.trans {B : Nat} {x y z : Xs} (h : Keeps B x y) (k : Keeps B y z) : Keeps B x z := ⟨k.b, k.len.trans h.len, Nat.le_trans k.c2 h.c2, k.p.trans h.p, k.t.trans h.t⟩
structure XsE (B : Nat) (x : Xs) : Prop where
 n : x.c.threads.length ≤ 1000
 thr : ∀ th ∈ x.c.threads, ThrB th
 seen : x.seen.length + 1 + count2 x.c ≤ B
 woken : x.woken.length + count2 x.c ≤ B
theorem XsE.b {B : Nat} {x : Xs} (h : XsE B x) : XsB B x := ⟨h.n, h.thr, by have := h.seen; omega, h.woken⟩
def EndK (B n : Nat) : Prop := ∀ x t code, 0 ≤ t → t < (x.c.threads.length : Int) → count2 x.c < n → XsE B x → Keeps B x (endX n x t code)
theorem at_mem {l : List Thr} {t : Int} (h0 : 0 ≤ t) (h1 : t < l.length) : at' l t ∈ l := nth_mem (by omega)
theorem tell_keeps {B n : Nat} (hE : EndK B n) {x : Xs} {t : Int} {l : List Int} (h0 : 0 ≤ t) (h1 : t < x.c.threads.length) (hc : count2 x.c < n) (h : XsE B x) : Keeps B x (tellX n x t l) := by
 unfold tellX
 split
 ·rename_i hok
  have hs := thrTell_state l _ hok
  have hcount := count2_with (x := (thrTell (at' x.c.threads t) l).1) h0 h1
  rw [hs.1] at hcount
  have e : count2 (withT x.c t (thrTell (at' x.c.threads t) l).1) = count2 x.c := by omega
  refine ⟨⟨by show (x.c.threads.set _ _).length ≤ 1000; rw [List.length_set]; exact h.n, withT_thr h.thr (thrTell_b l _ (h.thr _ (at_mem h0 h1))), ?_, ?_⟩, by show (x.c.threads.set _ _).length = _; rw [List.length_set], Nat.le_of_eq e, rfl, rfl⟩
  ·show x.seen.length + count2 (withT x.c t (thrTell (at' x.c.threads t) l).1) ≤ B
   have := h.seen; omega
  ·show x.woken.length + count2 (withT x.c t (thrTell (at' x.c.threads t) l).1) ≤ B
   have := h.woken; omega
 ·exact hE x t 2 h0 h1 hc h
theorem rest_b {x : Xs} {t st on : Int} (h : ∀ th ∈ x.c.threads, ThrB th) (h0 : 0 ≤ t) (h1 : t < x.c.threads.length) : ∀ th ∈ (restX x t st on).c.threads, ThrB th :=
 withT_thr h (by have := h _ (at_mem h0 h1); exact this)
theorem rest_len (x : Xs) (t st on : Int) : (restX x t st on).c.threads.length = x.c.threads.length := by show (x.c.threads.set _ _).length = _; rw [List.length_set]
theorem rest_c2 {x : Xs} {t : Int} (on : Int) {st : Int} (hst : st ≠ 2) (h0 : 0 ≤ t) (h1 : t < x.c.threads.length) : count2 (restX x t st on).c + (if (at' x.c.threads t).state = 2 then 1 else 0) = count2 x.c := by
 have := count2_with (c := x.c) (x := { at' x.c.threads t with state := st, on := on }) h0 h1
 simp only [if_neg hst] at this
 exact this
theorem wake2_keeps {B n : Nat} (hE : EndK B n) {x : Xs} {k : Nat} {l : List Int} (h1 : k < x.c.threads.length) (hs : (nth x.c.threads k).state = 2) (hc : count2 x.c ≤ n) (h : XsB B x) : Keeps B x (wakeX n x k l) := by
 have h1' : (k : Int) < x.c.threads.length := by omega
 have hr := rest_c2 (x := { x with woken := x.woken ++ [(k : Int)] }) (t := k) 0 (st := 0) (by omega) (by omega) h1'
 have hs' : (at' x.c.threads (k : Int)).state = 2 := hs
 simp only [hs', if_true] at hr
 unfold wakeX
 rw [if_neg (by omega)]
 have hl := rest_len { x with woken := x.woken ++ [(k : Int)] } k 0 0
 have hX : XsE B (restX { x with woken := x.woken ++ [(k : Int)] } k 0 0) := by
  refine ⟨by rw [hl]; exact h.n, rest_b h.thr (by omega) h1', ?_, ?_⟩
  ·show x.seen.length + 1 + count2 (restX { x with woken := x.woken ++ [(k : Int)] } k 0 0).c ≤ B
   have := h.seen; omega
  ·show (x.woken ++ [(k : Int)]).length + count2 (restX { x with woken := x.woken ++ [(k : Int)] } k 0 0).c ≤ B
   have := h.woken; simp; omega
 have ht := tell_keeps hE (x := restX { x with woken := x.woken ++ [(k : Int)] } k 0 0) (t := k) (l := l) (by omega) (by rw [hl]; exact h1') (by omega) hX
 exact ⟨ht.b, ht.len.trans hl, by have := ht.c2; omega, ht.p, ht.t⟩
theorem wake_keeps {B n : Nat} (hE : EndK B n) {x : Xs} {t : Int} {l : List Int} (h1 : t < x.c.threads.length) (hc : count2 x.c < n) (h : XsE B x) (hw : x.woken.length + 1 + count2 x.c ≤ B) : Keeps B x (wakeX n x t l) := by
 unfold wakeX
 by_cases h0 : t < 0
 ·rw [if_pos h0]; exact Keeps.refl h.b
 rw [if_neg h0]
 have hr := rest_c2 (x := { x with woken := x.woken ++ [t] }) (t := t) 0 (st := 0) (by omega) (by omega) h1
 have hl := rest_len { x with woken := x.woken ++ [t] } t 0 0
 have hX : XsE B (restX { x with woken := x.woken ++ [t] } t 0 0) := by
  refine ⟨by rw [hl]; exact h.n, rest_b h.thr (by omega) h1, ?_, ?_⟩
  ·show x.seen.length + 1 + count2 (restX { x with woken := x.woken ++ [t] } t 0 0).c ≤ B
   have := h.seen; simp only at hr; omega
  ·show (x.woken ++ [t]).length + count2 (restX { x with woken := x.woken ++ [t] } t 0 0).c ≤ B
   simp only at hr; simp; omega
 have ht := tell_keeps hE (x := restX { x with woken := x.woken ++ [t] } t 0 0) (t := t) (l := l) (by omega) (by rw [hl]; exact h1) (by simp only at hr; omega) hX
 exact ⟨ht.b, ht.len.trans hl, by have := ht.c2; simp only at hr; omega, ht.p, ht.t⟩
theorem endL_keeps {B n : Nat} (hE : EndK B n) {code t : Int} : ∀ (ks : List Nat) (x : Xs), (∀ k ∈ ks, k < x.c.threads.length) → count2 x.c ≤ n → XsB B x → Keeps B x (endL n code t ks x)
 | [], x, _, _, h => by rw [endL]; exact Keeps.refl h
 | k :: ks, x, hk, hc, h => by
  rw [endL]
  by_cases hw : (nth x.c.threads k).state = 2 ∧ (nth x.c.threads k).on = t
  ·rw [if_pos hw]
   have h1 := wake2_keeps hE (l := [code]) (hk k (by simp)) hw.1 hc h
   exact h1.trans (endL_keeps hE ks _ (fun j hj => by rw [h1.len]; exact hk j (by simp [hj])) (by have := h1.c2; omega) h1.b)
  ·rw [if_neg hw]
   exact endL_keeps hE ks x (fun j hj => hk j (by simp [hj])) hc h
def end0 (x : Xs) (t code : Int) : Xs := seeX { x with c := withT x.c t (thrEnd code) } 2 t code
theorem end0_keeps {B : Nat} {x : Xs} {t code : Int} (h0 : 0 ≤ t) (h1 : t < x.c.threads.length) (h : XsE B x) : Keeps B x (end0 x t code) := by
 have hc := count2_with (c := x.c) (x := thrEnd code) h0 h1
 have he : (thrEnd code).state ≠ 2 := by simp [thrEnd]
 rw [if_neg he] at hc
 have hl : (withT x.c t (thrEnd code)).threads.length = x.c.threads.length := by show (x.c.threads.set _ _).length = _; rw [List.length_set]
 refine ⟨⟨by show (withT x.c t (thrEnd code)).threads.length ≤ 1000; rw [hl]; exact h.n, withT_thr h.thr (thrEnd_b code), ?_, ?_⟩, hl, ?_, rfl, rfl⟩
 ·show (x.seen ++ [_]).length + count2 (withT x.c t (thrEnd code)) ≤ B
  have := h.seen; simp; omega
 ·show x.woken.length + count2 (withT x.c t (thrEnd code)) ≤ B
  have := h.woken; omega
 ·show count2 (withT x.c t (thrEnd code)) ≤ _
  omega
theorem endX_succ (n : Nat) (x : Xs) (t code : Int) : endX (n + 1) x t code = endL n code t (List.range (end0 x t code).c.threads.length) (end0 x t code) := by
 rw [endX]
 have hl : (end0 x t code).c.threads.length = x.c.threads.length := by show (x.c.threads.set _ _).length = _; rw [List.length_set]
 rw [hl]; rfl
theorem end_keeps (B : Nat) : ∀ n, EndK B n
 | 0 => fun x t code _ _ h => absurd h (by omega)
 | n + 1 => fun x t code h0 h1 hc h => by
  rw [endX_succ]
  have hk := end0_keeps (code := code) h0 h1 h
  exact hk.trans (endL_keeps (end_keeps B n) _ _ (fun k hk => by simpa using hk) (by have := hk.c2; omega) hk.b)
end Go.Hb
end

