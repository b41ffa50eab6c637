/-
  A layer for reasoning about the program's calls, and contracts of its functions (C5). CONDITIONS: none; each theorem bears its own.
-/
import Derived.Test.YtgaaocndjaoihaaC4
import Derived.Test.YtgaaocndjaoihaaL5
set_option linter.unusedVariables false
set_option linter.unusedSimpArgs false
section
namespace Go.Hb
open Go Go.Proofs Go.RowKit
attribute [-simp] aC aL aOper aThen aInBlock aIf aPlan grow

/-! ### what channels do, in plain -/
structure Chs where
  b : Rows
  s : Rows
  r : Rows

def row (L : Rows) (ch : Nat) : List Int := L.getD ch []

def sendS (c : Chs) (ch : Nat) (room t x : Int) : Int × Bool × Chs := match row c.r ch with
  | f :: _ => (f, true, ⟨c.b, c.s, c.r.map (del f)⟩)
  | [] => if ((row c.b ch).length : Int) < room then (-1, true, ⟨c.b.set ch (row c.b ch ++ [x]), c.s, c.r⟩) else (-1, false, ⟨c.b, c.s.set ch (row c.s ch ++ [t, x]), c.r⟩)
def isReady (c : Chs) (ch : Nat) : Bool := decide (0 < (row c.b ch).length + (row c.s ch).length)
def taken (c : Chs) (ch : Nat) : Chs := ⟨c.b.set ch (takeOut (row c.b ch) (row c.s ch)).2.2.1, c.s.set ch (takeOut (row c.b ch) (row c.s ch)).2.2.2, c.r⟩
def recvS (c : Chs) (ch : Nat) (t : Int) : Int × Int × Bool × Chs :=
  if isReady c ch = true then ((takeOut (row c.b ch) (row c.s ch)).1, (takeOut (row c.b ch) (row c.s ch)).2.1, true, taken c ch) else (0, -1, false, ⟨c.b, c.s, wait t c.r ch⟩)
def selS (c : Chs) (cl : List Nat) (t : Int) : Int × Int × Int × Bool × Chs := match cl.findIdx? (isReady c) with
  | some k => ((k : Int), (takeOut (row c.b (cl.getD k 0)) (row c.s (cl.getD k 0))).1, (takeOut (row c.b (cl.getD k 0)) (row c.s (cl.getD k 0))).2.1, true, taken c (cl.getD k 0))
  | none => (-1, 0, -1, false, ⟨c.b, c.s, waits t cl c.r⟩)

structure Inv (n M : Nat) (c : Chs) : Prop where
  sz : Sz n M c.b c.s c.r
  ev : ∀ x ∈ c.s, x.length % 2 = 0

theorem row_at {L : Rows} {ch : Nat} (h : ch < L.length) : L[ch]? = some (row L ch) := by unfold row; simp [h]
theorem row_mem {L : Rows} {ch : Nat} (h : ch < L.length) : row L ch ∈ L := List.mem_of_getElem? (row_at h)
theorem set_mem {L : Rows} {ch : Nat} {x y : List Int} (h : y ∈ L.set ch x) : y = x ∨ y ∈ L := by
  rcases List.mem_or_eq_of_mem_set h with h' | h'
  · exact .inr h'
  · exact .inl h'
theorem Sz.up {n M M' : Nat} {B S R : Rows} (h : Sz n M B S R) (h1 : M ≤ M') (h2 : M' ≤ 900000) : Sz n M' B S R :=
  ⟨h.n0, h.n1, h.b, h.s, h.r, fun x hx => Nat.le_trans (h.bb x hx) h1, fun x hx => Nat.le_trans (h.bs x hx) h1, fun x hx => Nat.le_trans (h.br x hx) h1, h2⟩
theorem Inv.up {n M M' : Nat} {c : Chs} (h : Inv n M c) (h1 : M ≤ M') (h2 : M' ≤ 900000) : Inv n M' c := ⟨h.sz.up h1 h2, h.ev⟩

theorem del_len (t : Int) (l : List Int) : (del t l).length ≤ l.length := List.length_filter_le _ _
theorem Inv.del {n M : Nat} {c : Chs} (h : Inv n M c) (t : Int) : Inv n M ⟨c.b, c.s, c.r.map (Hb.del t)⟩ :=
  ⟨⟨h.sz.n0, h.sz.n1, h.sz.b, h.sz.s, by simpa using h.sz.r, h.sz.bb, h.sz.bs, fun x hx => by
    obtain ⟨y, hy, rfl⟩ := List.mem_map.1 hx
    exact Nat.le_trans (del_len _ _) (h.sz.br y hy), h.sz.m⟩, h.ev⟩

theorem Inv.send {n M : Nat} {c : Chs} (h : Inv n M c) (hM : M + 5 ≤ 900000) {ch : Nat} (hch : ch < n) (room t x : Int) : Inv n (M + 5) (sendS c ch room t x).2.2 := by
  unfold sendS
  split
  · exact (h.del _).up (by omega) hM
  · have hb : row c.b ch ∈ c.b := row_mem (by rw [h.sz.b]; exact hch)
    have hs : row c.s ch ∈ c.s := row_mem (by rw [h.sz.s]; exact hch)
    have h0 := h.up (Nat.le_add_right M 5) hM
    have hbl := h.sz.bb _ hb
    have hsl := h.sz.bs _ hs
    have hse := h.ev _ hs
    split
    · exact ⟨⟨h.sz.n0, h.sz.n1, by simpa using h.sz.b, h.sz.s, h.sz.r, fun y hy => by
        rcases set_mem hy with rfl | hy
        · simp; omega
        · exact h0.sz.bb y hy, h0.sz.bs, h0.sz.br, hM⟩, h.ev⟩
    · exact ⟨⟨h.sz.n0, h.sz.n1, h.sz.b, by simpa using h.sz.s, h.sz.r, h0.sz.bb, fun y hy => by
        rcases set_mem hy with rfl | hy
        · simp; omega
        · exact h0.sz.bs y hy, h0.sz.br, hM⟩, fun y hy => by
        rcases set_mem hy with rfl | hy
        · simp; omega
        · exact h.ev y hy⟩

theorem takeOut_len (b σ : List Int) : (takeOut b σ).2.2.1.length ≤ b.length ∧ (takeOut b σ).2.2.2.length ≤ σ.length ∧ (σ.length % 2 = 0 → (takeOut b σ).2.2.2.length % 2 = 0) := by
  unfold takeOut
  split <;> simp <;> omega

theorem Inv.take {n M : Nat} {c : Chs} (h : Inv n M c) {ch : Nat} (hch : ch < n) : Inv n M (taken c ch) := by
  have hb : row c.b ch ∈ c.b := row_mem (by rw [h.sz.b]; exact hch)
  have hs : row c.s ch ∈ c.s := row_mem (by rw [h.sz.s]; exact hch)
  obtain ⟨t1, t2, t3⟩ := takeOut_len (row c.b ch) (row c.s ch)
  exact ⟨⟨h.sz.n0, h.sz.n1, by simpa [taken] using h.sz.b, by simpa [taken] using h.sz.s, h.sz.r, fun y hy => by
    rcases set_mem hy with rfl | hy
    · exact Nat.le_trans t1 (h.sz.bb _ hb)
    · exact h.sz.bb y hy, fun y hy => by
    rcases set_mem hy with rfl | hy
    · exact Nat.le_trans t2 (h.sz.bs _ hs)
    · exact h.sz.bs y hy, h.sz.br, h.sz.m⟩, fun y hy => by
    rcases set_mem hy with rfl | hy
    · exact t3 (h.ev _ hs)
    · exact h.ev y hy⟩

theorem Inv.waits {n M : Nat} {c : Chs} (h : Inv n M c) (hM : M + 5 ≤ 900000) {cl : List Nat} (hcl : cl.length ≤ 5) (t : Int) : Inv n (M + 5) ⟨c.b, c.s, waits t cl c.r⟩ :=
  have h0 := h.up (Nat.le_add_right M 5) hM
  ⟨⟨h.sz.n0, h.sz.n1, h.sz.b, h.sz.s, by show (Hb.waits t cl c.r).length = n; rw [waits_length]; exact h.sz.r, h0.sz.bb, h0.sz.bs, fun y hy => Nat.le_trans (waits_row t M cl c.r h.sz.br y hy) (by omega), hM⟩, h.ev⟩

theorem Inv.recv {n M : Nat} {c : Chs} (h : Inv n M c) (hM : M + 5 ≤ 900000) {ch : Nat} (hch : ch < n) (t : Int) : Inv n (M + 5) (recvS c ch t).2.2.2 := by
  unfold recvS
  split
  · exact (h.take hch).up (by omega) hM
  · exact h.waits (cl := [ch]) hM (by simp) t

theorem Inv.sel {n M : Nat} {c : Chs} (h : Inv n M c) (hM : M + 5 ≤ 900000) {cl : List Nat} (hcl : cl.length ≤ 5) (hch : ∀ k ∈ cl, k < n) (t : Int) : Inv n (M + 5) (selS c cl t).2.2.2.2 := by
  unfold selS
  split
  · rename_i k hk
    obtain ⟨hkl, _⟩ := List.findIdx?_eq_some_iff_getElem.1 hk
    exact (h.take (hch _ (by simp [hkl]))).up (by omega) hM
  · exact h.waits hM hcl t

/-! ### the document's functions, each whole -/
def dc (c : Chs) : LV := .agg (dcore c.b c.s c.r)

section
variable {n M ch : Nat} {c : Chs} {t x room : Int}

theorem refSend_p (H : Inv n M c) (hch : ch < n) : PureC Try.prog 30 [dc c, .int .i64 ch, .int .i64 room, .int .i64 t, .int .i64 x] (.tup [dc (sendS c ch room t x).2.2, .int .i64 (sendS c ch room t x).1, .bool (sendS c ch room t x).2.1]) := by
  have hb := row_at (L := c.b) (ch := ch) (by rw [H.sz.b]; exact hch)
  have hs := row_at (L := c.s) (ch := ch) (by rw [H.sz.s]; exact hch)
  have hr := row_at (L := c.r) (ch := ch) (by rw [H.sz.r]; exact hch)
  unfold sendS dc
  split
  · rename_i f ρ he
    rw [he] at hr
    exact refSend_meet H.sz hr
  · rename_i he
    rw [he] at hr
    split
    · rename_i hl; exact refSend_lay H.sz hr hb hl
    · rename_i hl; exact refSend_wait H.sz hr hb hs hl

theorem not_ready (H : Inv n M c) (hch : ch < n) (h : ¬ isReady c ch = true) : c.b[ch]? = some [] ∧ c.s[ch]? = some [] := by
  have hb := row_at (L := c.b) (ch := ch) (by rw [H.sz.b]; exact hch)
  have hs := row_at (L := c.s) (ch := ch) (by rw [H.sz.s]; exact hch)
  unfold isReady at h
  simp only [decide_eq_true_eq] at h
  rw [hb, hs]
  exact ⟨congrArg some (List.eq_nil_of_length_eq_zero (by omega)), congrArg some (List.eq_nil_of_length_eq_zero (by omega))⟩

theorem refRecv_p (H : Inv n M c) (hch : ch < n) : PureC Try.prog 31 [dc c, .int .i64 ch, .int .i64 t] (.tup [dc (recvS c ch t).2.2.2, .int .i64 (recvS c ch t).1, .int .i64 (recvS c ch t).2.1, .bool (recvS c ch t).2.2.1]) := by
  have hb := row_at (L := c.b) (ch := ch) (by rw [H.sz.b]; exact hch)
  have hs := row_at (L := c.s) (ch := ch) (by rw [H.sz.s]; exact hch)
  have hr := row_at (L := c.r) (ch := ch) (by rw [H.sz.r]; exact hch)
  unfold recvS dc
  split
  · rename_i he
    unfold isReady at he; simp only [decide_eq_true_eq] at he
    exact refRecv_ready H.sz hb hs (H.ev _ (List.mem_of_getElem? hs)) he
  · rename_i he
    obtain ⟨h1, h2⟩ := not_ready H hch he
    exact refRecv_wait H.sz hr h1 h2

theorem refSelect_p (H : Inv n M c) {cl : List Nat} (hcl : cl.length ≤ 5) (hch : ∀ k ∈ cl, k < n) : PureC Try.prog 32 [dc c, encI (ints cl), .int .i64 t] (.tup [dc (selS c cl t).2.2.2.2, .int .i64 (selS c cl t).1, .int .i64 (selS c cl t).2.1, .int .i64 (selS c cl t).2.2.1, .bool (selS c cl t).2.2.2.1]) := by
  unfold selS dc
  split
  · rename_i k hk
    obtain ⟨hkl, hp, hno⟩ := List.findIdx?_eq_some_iff_getElem.1 hk
    have hg : cl.getD k 0 = cl[k] := by simp [hkl]
    have hc : cl[k] < n := hch _ (List.getElem_mem hkl)
    have hb := row_at (L := c.b) (ch := cl[k]) (by rw [H.sz.b]; exact hc)
    have hs := row_at (L := c.s) (ch := cl[k]) (by rw [H.sz.s]; exact hc)
    rw [hg]
    have h0 : 0 < (row c.b cl[k]).length + (row c.s cl[k]).length := by simpa [isReady] using hp
    exact refSelect_ready H.sz (by omega) (fun j d hj hjk => by
      obtain ⟨hjl, rfl⟩ := List.getElem?_eq_some_iff.1 hj
      exact not_ready H (hch _ (List.getElem_mem hjl)) (by simpa using hno j hjk)) (by simp [hkl]) hb hs (H.ev _ (List.mem_of_getElem? hs)) h0
  · rename_i hk
    have hall := List.findIdx?_eq_none_iff.1 hk
    exact refSelect_none H.sz (by omega) fun d hd => not_ready H (hch d hd) (by simp [hall d hd])

/-! ### the program's functions, each whole -/
variable {s0 : List AObj} {id q r p : Nat} {v : List Nat}
def putC (s0 : List AObj) (q r p : Nat) (c : Chs) : List AObj := put s0 q r p c.b c.s c.r

theorem chSend_c (Hb : Base s0 id q r p n) (H : Inv n M c) (hch : ch < n) :
    aCalls Try.prog 15 [.ptr id 0, .int .i64 ch, .int .i64 room, .int .i64 t, .int .i64 x] (putC s0 q r p c) v fun y s' v' => y = .tup [.int .i64 (sendS c ch room t x).1, .bool (sendS c ch room t x).2.1] ∧ putC s0 q r p (sendS c ch room t x).2.2 = s' ∧ v <+: v' := by
  have hm := H.sz.m
  have hb := row_at (L := c.b) (ch := ch) (by rw [H.sz.b]; exact hch)
  have hs := row_at (L := c.s) (ch := ch) (by rw [H.sz.s]; exact hch)
  have hr := row_at (L := c.r) (ch := ch) (by rw [H.sz.r]; exact hch)
  have hbl := H.sz.bb _ (List.mem_of_getElem? hb)
  have hsl := H.sz.bs _ (List.mem_of_getElem? hs)
  unfold sendS putC
  split
  · rename_i f ρ he
    rw [he] at hr
    exact aCalls_mono (send_meet Hb H.sz.r (fun x hx => Nat.le_trans (H.sz.br x hx) (by omega)) hr) fun _ _ _ ⟨h1, h2, h3⟩ => ⟨h1, h2, h3 ▸ List.prefix_refl _⟩
  · rename_i he
    rw [he] at hr
    split
    · rename_i hl; exact send_lay Hb hr hb H.sz.r H.sz.b (by omega) hl
    · rename_i hl; exact send_wait Hb hr hb hs H.sz.r H.sz.b (by omega) hl

theorem chRecv_c (Hb : Base s0 id q r p n) (H : Inv n M c) (hch : ch < n) :
    aCalls Try.prog 16 [.ptr id 0, .int .i64 ch, .int .i64 t] (putC s0 q r p c) v fun y s' v' => y = .tup [.int .i64 (recvS c ch t).1, .int .i64 (recvS c ch t).2.1, .bool (recvS c ch t).2.2.1] ∧ putC s0 q r p (recvS c ch t).2.2.2 = s' ∧ v <+: v' := by
  have hm := H.sz.m
  have hb := row_at (L := c.b) (ch := ch) (by rw [H.sz.b]; exact hch)
  have hs := row_at (L := c.s) (ch := ch) (by rw [H.sz.s]; exact hch)
  have hbl := H.sz.bb _ (List.mem_of_getElem? hb)
  have hsl := H.sz.bs _ (List.mem_of_getElem? hs)
  unfold recvS putC
  split
  · rename_i he
    unfold isReady at he; simp only [decide_eq_true_eq] at he
    exact recv_ready Hb H.sz.b H.sz.s hb hs (H.ev _ (List.mem_of_getElem? hs)) he (by omega) (by omega)
  · rename_i he
    obtain ⟨h1, h2⟩ := not_ready H hch he
    exact recv_wait Hb H.sz.b H.sz.r (fun x hx => Nat.le_trans (H.sz.br x hx) (by omega)) h1 h2

theorem chSelect_c (Hb : Base s0 id q r p n) (H : Inv n M c) {cl : List Nat} (hcl : cl.length ≤ 5) (hch : ∀ k ∈ cl, k < n) :
    aCalls Try.prog 19 [.ptr id 0, encI (ints cl), .int .i64 t] (putC s0 q r p c) v fun y s' v' => y = .tup [.int .i64 (selS c cl t).1, .int .i64 (selS c cl t).2.1, .int .i64 (selS c cl t).2.2.1, .bool (selS c cl t).2.2.2.1] ∧ putC s0 q r p (selS c cl t).2.2.2.2 = s' ∧ v <+: v' := by
  have hm := H.sz.m
  unfold selS putC
  split
  · rename_i k hk
    obtain ⟨hkl, hp, hno⟩ := List.findIdx?_eq_some_iff_getElem.1 hk
    have hg : cl.getD k 0 = cl[k] := by simp [hkl]
    have hc : cl[k] < n := hch _ (List.getElem_mem hkl)
    have hb := row_at (L := c.b) (ch := cl[k]) (by rw [H.sz.b]; exact hc)
    have hs := row_at (L := c.s) (ch := cl[k]) (by rw [H.sz.s]; exact hc)
    have hbl := H.sz.bb _ (List.mem_of_getElem? hb)
    have hsl := H.sz.bs _ (List.mem_of_getElem? hs)
    rw [hg]
    have h0 : 0 < (row c.b cl[k]).length + (row c.s cl[k]).length := by simpa [isReady] using hp
    exact select_ready Hb H.sz.b H.sz.s (by omega) (fun j d hj hjk => by
      obtain ⟨hjl, rfl⟩ := List.getElem?_eq_some_iff.1 hj
      exact not_ready H (hch _ (List.getElem_mem hjl)) (by simpa using hno j hjk)) (by simp [hkl]) hb hs (H.ev _ (List.mem_of_getElem? hs)) h0 (by omega) (by omega)
  · rename_i hk
    have hall := List.findIdx?_eq_none_iff.1 hk
    exact select_none Hb H.sz.b H.sz.r (M := M) (by omega) H.sz.br fun d hd => not_ready H (hch d hd) (by simp [hall d hd])

theorem chCancel_c (Hb : Base s0 id q r p n) (H : Inv n M c) :
    aCalls Try.prog 20 [.ptr id 0, .int .i64 t] (putC s0 q r p c) v fun y s' v' => y = .bool (c.r.any fun l => l.contains t) ∧ putC s0 q r p ⟨c.b, c.s, c.r.map (del t)⟩ = s' ∧ v = v' := by
  have hm := H.sz.m
  exact cancel_p Hb H.sz.r (fun x hx => Nat.le_trans (H.sz.br x hx) (by omega))
end
end Go.Hb
end

section
namespace Go.Hb
open Go Go.Proofs Go.RowKit
attribute [-simp] aC aL aOper aThen aInBlock aIf aPlan grow

section
variable {n M ch : Nat} {c c' : Chs} {t x room : Int} {s0 J : List AObj} {id q r p : Nat} {v : List Nat}

@[simp] theorem putC_length (s0 : List AObj) (q r p : Nat) (c : Chs) : (putC s0 q r p c).length = s0.length := put_length ..
theorem putC_app (Hb : Base s0 id q r p n) (J : List AObj) (c : Chs) : putC (s0 ++ J) q r p c = putC s0 q r p c ++ J := by
  unfold putC put
  rw [List.set_append_left _ _ Hb.hq, List.set_append_left _ _ (by simpa using Hb.hr), List.set_append_left _ _ (by simpa using Hb.hp)]
theorem Base.app (Hb : Base s0 id q r p n) (J : List AObj) : Base (s0 ++ J) id q r p n :=
  ⟨by rw [List.getElem?_append_left (get_lt Hb.hc)]; exact Hb.hc, by have := Hb.hq; simp; omega, by have := Hb.hr; simp; omega, by have := Hb.hp; simp; omega, Hb.iq, Hb.ir, Hb.ip, Hb.qr, Hb.qp, Hb.rp, Hb.hn⟩
theorem putC_under (Hb : Base s0 id q r p n) (m : Nat) : ∀ (i : Nat) (o : AObj), (putC s0 q r p c')[i]? = some o → (putC s0 q r p c)[i]? = some o ∨ o.under m := fun i o h => by
  by_cases e1 : i = q
  · subst e1; right
    have := Hb.gq c'.b c'.s c'.r
    rw [show putC s0 i r p c' = put s0 i r p c'.b c'.s c'.r from rfl, this] at h
    cases h; exact rows_under m _
  by_cases e2 : i = r
  · subst e2; right
    have := Hb.gr c'.b c'.s c'.r
    rw [show putC s0 q i p c' = put s0 q i p c'.b c'.s c'.r from rfl, this] at h
    cases h; exact rows_under m _
  by_cases e3 : i = p
  · subst e3; right
    have := Hb.gp c'.b c'.s c'.r
    rw [show putC s0 q r i c' = put s0 q r i c'.b c'.s c'.r from rfl, this] at h
    cases h; exact rows_under m _
  left
  unfold putC put at h ⊢
  rw [List.getElem?_set_ne (by omega), List.getElem?_set_ne (by omega), List.getElem?_set_ne (by omega)] at h ⊢
  exact h

theorem chSend_j (Hb : Base s0 id q r p n) (H : Inv n M c) (hch : ch < n) :
    aCalls Try.prog 15 [.ptr id 0, .int .i64 ch, .int .i64 room, .int .i64 t, .int .i64 x] (putC s0 q r p c ++ J) v fun y s' v' => y = .tup [.int .i64 (sendS c ch room t x).1, .bool (sendS c ch room t x).2.1] ∧ putC s0 q r p (sendS c ch room t x).2.2 ++ J = s' ∧ v <+: v' := by
  rw [← putC_app Hb, ← putC_app Hb]; exact chSend_c (Hb.app J) H hch
theorem chRecv_j (Hb : Base s0 id q r p n) (H : Inv n M c) (hch : ch < n) :
    aCalls Try.prog 16 [.ptr id 0, .int .i64 ch, .int .i64 t] (putC s0 q r p c ++ J) v fun y s' v' => y = .tup [.int .i64 (recvS c ch t).1, .int .i64 (recvS c ch t).2.1, .bool (recvS c ch t).2.2.1] ∧ putC s0 q r p (recvS c ch t).2.2.2 ++ J = s' ∧ v <+: v' := by
  rw [← putC_app Hb, ← putC_app Hb]; exact chRecv_c (Hb.app J) H hch
theorem chSelect_j (Hb : Base s0 id q r p n) (H : Inv n M c) {cl : List Nat} (hcl : cl.length ≤ 5) (hch : ∀ k ∈ cl, k < n) :
    aCalls Try.prog 19 [.ptr id 0, encI (ints cl), .int .i64 t] (putC s0 q r p c ++ J) v fun y s' v' => y = .tup [.int .i64 (selS c cl t).1, .int .i64 (selS c cl t).2.1, .int .i64 (selS c cl t).2.2.1, .bool (selS c cl t).2.2.2.1] ∧ putC s0 q r p (selS c cl t).2.2.2.2 ++ J = s' ∧ v <+: v' := by
  rw [← putC_app Hb, ← putC_app Hb]; exact chSelect_c (Hb.app J) H hcl hch
theorem chCancel_j (Hb : Base s0 id q r p n) (H : Inv n M c) :
    aCalls Try.prog 20 [.ptr id 0, .int .i64 t] (putC s0 q r p c ++ J) v fun y s' v' => y = .bool (c.r.any fun l => l.contains t) ∧ putC s0 q r p ⟨c.b, c.s, c.r.map (del t)⟩ ++ J = s' ∧ v = v' := by
  rw [← putC_app Hb, ← putC_app Hb]; exact chCancel_c (Hb.app J) H

/-- What a deed comes to. -/
def stepS (rooms : List Int) (k tt cc vv : Int) (l : List Int) (c : Chs) : Chs :=
  if k < 0 ∨ k > 2 then ⟨c.b, c.s, c.r.map (del (around tt 8))⟩
  else if freeB (around tt 8) c.s c.r = false then c
  else if k = 0 then (sendS c (around cc 4) (around (rooms.getD (around cc 4) 0) 4) (around tt 8) vv).2.2
  else if k = 1 then (recvS c (around cc 4) (around tt 8)).2.2.2
  else (selS c (choice l 4) (around tt 8)).2.2.2.2

theorem Inv.step {c : Chs} (H : Inv 4 M c) (hM : M + 5 ≤ 900000) (rooms : List Int) (k tt cc vv : Int) (l : List Int) : Inv 4 (M + 5) (stepS rooms k tt cc vv l c) := by
  have hch : around cc 4 < 4 := by have := around_lt (a := cc) (m := 4) (by omega); omega
  unfold stepS
  split
  · exact (H.del _).up (by omega) hM
  split
  · exact H.up (by omega) hM
  split
  · exact H.send hM hch _ _ _
  split
  · exact H.recv hM hch _
  · exact H.sel hM (choice_len _ _) (fun k hk => by have := choice_lt (m := 4) (by omega) k hk; omega) _

def DoesEnd (s0 : List AObj) (q r p : Nat) (v : List Nat) (c' : Chs) (y : LV) (s' : List AObj) (v' : List Nat) : Prop := y = .tup [dc c', .bool true] ∧ (∃ J, putC s0 q r p c' ++ J = s') ∧ v <+: v'

theorem does_drop {P : Program} {f : FuncId} {args : List LV} (Hb : Base s0 id q r p n) (h : aCalls P f args (putC s0 q r p c) v (DoesEnd s0 q r p v c')) :
    aCalls P f args (putC s0 q r p c) v fun y s' v' => .tup [dc c', .bool true] = y ∧ putC s0 q r p c' = s' ∧ v <+: v' :=
  aCalls_drop (aCalls_mono h fun y s' v' ⟨h1, ⟨J, h2⟩, h3⟩ => ⟨putC s0 q r p c', J, h2.symm, by simp, by subst h1; simp [dc, dcore, rows, LV.under, undersB, mapI_under], putC_under Hb _, h1.symm, rfl, h3⟩)

set_option maxRecDepth 20000 in
set_option maxHeartbeats 16000000 in
theorem does_c {c : Chs} (Hb : Base s0 id q r p 4) (H : Inv 4 M c) (hM : M + 5 ≤ 900000) {rooms : List Int} (hr : rooms.length = 4) (hri : ∀ a ∈ rooms, I64 a) {k tt cc vv : Int} {l : List Int} {xl : LV} (hk : I64 k) (htt : I64 tt) (hcc : I64 cc) (hx : IsL xl l) (hl : ∀ a ∈ l, I64 a) :
    aCalls Try.prog 11 [.ptr id 0, dc c, four rooms, .agg [.int .i64 k, .int .i64 tt, .int .i64 cc, .int .i64 vv, xl]] (putC s0 q r p c) v fun y s' v' => .tup [dc (stepS rooms k tt cc vv l c), .bool true] = y ∧ putC s0 q r p (stepS rooms k tt cc vv l c) = s' ∧ v <+: v' := by
  have hch : around cc 4 < 4 := by have := around_lt (a := cc) (m := 4) (by omega); omega
  have hM9 := H.sz.m
  have hroom : rooms[around cc 4]? = some (rooms.getD (around cc 4) 0) := by simp [hr, hch]
  have hri' := hri _ (List.mem_of_getElem? hroom)
  refine does_drop Hb ?_
  refine aCalls_of Try.func11 rfl (by decide) (by simp [Try.ntmps11]) false ?_
  have hres : Try.f11.results = #[.cell 8 28, .tmp 9] := rfl
  have hw0 : ∀ c l, (putC s0 q r p c ++ l)[s0.length]? = l[0]? := fun c l => get_at0 (by simp)
  have hw1 : ∀ c l k, (putC s0 q r p c ++ l)[s0.length + k]? = l[k]? := fun c l k => get_at (by simp) k
  have hs0 : ∀ c l o, (putC s0 q r p c ++ l).set s0.length o = putC s0 q r p c ++ l.set 0 o := fun c l o => set_at0 (by simp) o
  have hs1 : ∀ c l k o, (putC s0 q r p c ++ l).set (s0.length + k) o = putC s0 q r p c ++ l.set k o := fun c l k o => set_at (by simp) k o
  have hcell : xl.cellsOk = true ∧ xl.cells = [xl] := by
    rcases hx with rfl | ⟨_, rfl | rfl⟩ <;> simp [encI]
  simp [Try.ntmps11, dc, dcore, four, hw0, hw1, hs0, hs1]
  refine aCalls_mono (around_p (m := 8) (by omega) (by omega) htt _ _) ?_
  rintro _ _ _ ⟨rfl, rfl, rfl⟩
  simp [hw0, hw1, hs0, hs1]
  refine aCalls_mono (around_p (m := 4) (by omega) (by omega) hcc _ _) ?_
  rintro _ _ _ ⟨rfl, rfl, rfl⟩
  simp [hw0, hw1, hs0, hs1]
  refine aCalls_mono (free_p (t := around tt 8) (B := c.b) (S := c.s) (R := c.r) (by rw [H.sz.s, H.sz.r]) (by rw [H.sz.r]; omega) (fun x hx => Nat.le_trans (H.sz.br x hx) (by omega)) (fun x hx => ⟨Nat.le_trans (H.sz.bs x hx) (by omega), H.ev x hx⟩) _ _) ?_
  rintro _ _ v1 ⟨rfl, rfl, hv⟩
  by_cases hk0 : k < 0 ∨ k > 2
  · have hst : stepS rooms k tt cc vv l c = ⟨c.b, c.s, c.r.map (del (around tt 8))⟩ := by unfold stepS; rw [if_pos hk0]
    rw [hst]
    rcases (by omega : k < 0 ∨ (¬ k < 0 ∧ 2 < k)) with h1 | ⟨h1, h2⟩
    · simp [hw0, hw1, hs0, hs1, h1]
      refine aCalls_mono (refCancel_p (t := around tt 8) H.sz _ _) ?_
      rintro _ _ v2 ⟨rfl, rfl, hv2⟩
      simp [hw0, hw1, hs0, hs1, dcore]
      refine aW_draw' (.qs [0, 1, 2, 4] (.w 3 [0] (.qs [5] (.w 6 [] (.qs [7] .nil))))) mixed (by kernel_rfl) (by kernel_rfl) ?_
      simp [hw0, hw1, hs0, hs1]
      refine aCalls_mono (chCancel_j Hb H) ?_
      rintro _ _ _ ⟨rfl, rfl, rfl⟩
      simp [hw0, hw1, hs0, hs1, hres]
      exact ⟨rfl, ⟨_, rfl⟩, hv.trans hv2⟩
    · simp [hw0, hw1, hs0, hs1, h1, h2]
      refine aCalls_mono (refCancel_p (t := around tt 8) H.sz _ _) ?_
      rintro _ _ v2 ⟨rfl, rfl, hv2⟩
      simp [hw0, hw1, hs0, hs1, dcore]
      refine aW_draw' (.qs [0, 1, 2, 4] (.w 3 [0] (.qs [5] (.w 6 [] (.qs [7] .nil))))) mixed (by kernel_rfl) (by kernel_rfl) ?_
      simp [hw0, hw1, hs0, hs1]
      refine aCalls_mono (chCancel_j Hb H) ?_
      rintro _ _ _ ⟨rfl, rfl, rfl⟩
      simp [hw0, hw1, hs0, hs1, hres]
      exact ⟨rfl, ⟨_, rfl⟩, hv.trans hv2⟩
  · have hk1 : ¬ k < 0 := by omega
    have hk2 : ¬ 2 < k := by omega
    simp [hw0, hw1, hs0, hs1, hk1, hk2]
    cases hf : freeB (around tt 8) c.s c.r with
    | false =>
      have hst : stepS rooms k tt cc vv l c = c := by unfold stepS; rw [if_neg hk0, if_pos hf]
      rw [hst]
      simp [hw0, hw1, hs0, hs1, hk1, hk2, hres]
      exact ⟨rfl, ⟨_, rfl⟩, hv⟩
    | true =>
      have hf' : ¬ freeB (around tt 8) c.s c.r = false := by rw [hf]; simp
      simp [hw0, hw1, hs0, hs1, hk1, hk2]
      by_cases h0 : k = 0
      · have hst : stepS rooms k tt cc vv l c = (sendS c (around cc 4) (around (rooms.getD (around cc 4) 0) 4) (around tt 8) vv).2.2 := by unfold stepS; rw [if_neg hk0, if_neg hf', if_pos h0]
        rw [hst]
        have hp := fun s v => refSend_p (room := around (rooms.getD (around cc 4) 0) 4) (t := around tt 8) (x := vv) H hch s v
        have hq := fun J v => chSend_j (J := J) (v := v) (room := around (rooms.getD (around cc 4) 0) 4) (t := around tt 8) (x := vv) Hb H hch
        have hrm := fun s v => room_p hr hroom hri' s v
        generalize sendS c (around cc 4) (around (rooms.getD (around cc 4) 0) 4) (around tt 8) vv = res at hp hq ⊢
        simp [h0]
        refine aW_draw' (.qs [0, 1, 2, 3, 5, 6, 7] (.or (.w 4 [7, 0] (.or (.w 8 [] (.qs [9, 10, 11, 12] (.w 13 [] (.w 14 [] (.qs [15, 16] .nil))))) (.w 13 [7, 0] (.w 8 [] (.qs [9, 10, 11, 12] (.w 14 [] (.qs [15, 16] .nil))))))) (.w 13 [7, 2, 0] (.w 4 [7, 0] (.w 8 [] (.qs [9, 10, 11, 12] (.w 14 [] (.qs [15, 16] .nil)))))))) mixed (by kernel_rfl) (by kernel_rfl) ?_
        have htk : List.take 4 (rooms.map (LV.int .i64)) = rooms.map (LV.int .i64) := List.take_of_length_le (by simp; omega)
        simp [hw0, hw1, hs0, hs1, hr, htk]
        refine ⟨?_, ?_⟩
        all_goals
          refine aCalls_mono (hrm _ _) ?_
          rintro _ _ _ ⟨rfl, rfl, rfl⟩
          simp [hw0, hw1, hs0, hs1, hr, htk]
        · refine ⟨?_, ?_⟩
          all_goals
            refine aCalls_mono (hp _ _) ?_
            rintro _ _ v2 ⟨rfl, rfl, hv2⟩
            simp [hw0, hw1, hs0, hs1, dc, dcore]
            refine aW_draw' (.qs [0, 1, 2, 3, 5, 6, 7] (.w 4 [7] (.w 8 [] (.qs [9, 10, 11, 12, 13] .nil)))) mixed (by kernel_rfl) (by kernel_rfl) ?_
            simp [hw0, hw1, hs0, hs1, hr, htk]
            refine aCalls_mono (hrm _ _) ?_
            rintro _ _ _ ⟨rfl, rfl, rfl⟩
            simp [hw0, hw1, hs0, hs1, hr, htk]
            refine aCalls_mono (hq _ _) ?_
            rintro _ _ v3 ⟨rfl, rfl, hv3⟩
            simp [hw0, hw1, hs0, hs1, hr, htk, hres]
            exact ⟨rfl, ⟨_, rfl⟩, (hv.trans hv2).trans hv3⟩
        · all_goals
            refine aCalls_mono (hp _ _) ?_
            rintro _ _ v2 ⟨rfl, rfl, hv2⟩
            simp [hw0, hw1, hs0, hs1, dc, dcore]
            refine aW_draw' (.qs [0, 1, 2, 3, 5, 6, 7] (.w 4 [7] (.w 8 [] (.qs [9, 10, 11, 12, 13] .nil)))) mixed (by kernel_rfl) (by kernel_rfl) ?_
            simp [hw0, hw1, hs0, hs1, hr, htk]
            refine aCalls_mono (hrm _ _) ?_
            rintro _ _ _ ⟨rfl, rfl, rfl⟩
            simp [hw0, hw1, hs0, hs1, hr, htk]
            refine aCalls_mono (hq _ _) ?_
            rintro _ _ v3 ⟨rfl, rfl, hv3⟩
            simp [hw0, hw1, hs0, hs1, hr, htk, hres]
            exact ⟨rfl, ⟨_, rfl⟩, (hv.trans hv2).trans hv3⟩
      · by_cases h1 : k = 1
        · have hst : stepS rooms k tt cc vv l c = (recvS c (around cc 4) (around tt 8)).2.2.2 := by unfold stepS; rw [if_neg hk0, if_neg hf', if_neg h0, if_pos h1]
          rw [hst]
          have hp := fun s v => refRecv_p (t := around tt 8) H hch s v
          have hq := fun J v => chRecv_j (J := J) (v := v) (t := around tt 8) Hb H hch
          generalize recvS c (around cc 4) (around tt 8) = res at hp hq ⊢
          simp [h0, h1, hw0, hw1, hs0, hs1]
          refine aCalls_mono (hp _ _) ?_
          rintro _ _ v2 ⟨rfl, rfl, hv2⟩
          simp [hw0, hw1, hs0, hs1, dc, dcore]
          refine aCalls_mono (hq _ _) ?_
          rintro _ _ v3 ⟨rfl, rfl, hv3⟩
          simp [hw0, hw1, hs0, hs1, hres]
          exact ⟨rfl, ⟨_, rfl⟩, (hv.trans hv2).trans hv3⟩
        · have hst : stepS rooms k tt cc vv l c = (selS c (choice l 4) (around tt 8)).2.2.2.2 := by unfold stepS; rw [if_neg hk0, if_neg hf', if_neg h0, if_neg h1]
          rw [hst]
          have hp := fun s v => refSelect_p (t := around tt 8) H (choice_len l 4) (fun k hk => by have := choice_lt (m := 4) (by omega) k hk; omega) s v
          have hq := fun J v => chSelect_j (J := J) (v := v) (t := around tt 8) Hb H (choice_len l 4) (fun k hk => by have := choice_lt (m := 4) (by omega) k hk; omega)
          generalize selS c (choice l 4) (around tt 8) = res at hp hq ⊢
          simp [h0, h1, hw0, hw1, hs0, hs1]
          refine aCalls_mono (choice_p hx (m := 4) (by omega) (by omega) hl _ _) ?_
          rintro _ _ v2 ⟨rfl, rfl, hv2⟩
          simp [hw0, hw1, hs0, hs1]
          refine aCalls_mono (hp _ _) ?_
          rintro _ _ v3 ⟨rfl, rfl, hv3⟩
          simp [hw0, hw1, hs0, hs1, dc, dcore]
          refine aCalls_mono (hq _ _) ?_
          rintro _ _ v4 ⟨rfl, rfl, hv4⟩
          simp [hw0, hw1, hs0, hs1, hres]
          exact ⟨rfl, ⟨_, rfl⟩, ((hv.trans hv2).trans hv3).trans hv4⟩
end
end Go.Hb
end

section
namespace Go.Hb
open Go Go.Proofs Go.RowKit
attribute [-simp] aC aL aOper aThen aInBlock aIf aPlan grow

structure DeedV where
  k : Int
  t : Int
  c : Int
  v : Int
  l : List Int
def deedX (d : DeedV) : List LV := [.int .i64 d.k, .int .i64 d.t, .int .i64 d.c, .int .i64 d.v, encI d.l]
def DeedOk (d : DeedV) : Prop := I64 d.k ∧ I64 d.t ∧ I64 d.c ∧ I64 d.v ∧ Ints d.l
def deeds (l : List DeedV) : LV := .imm 5 l.length (l.flatMap deedX) .no

theorem flat_at {α : Type} {X : α → List LV} {m : Nat} (hX : ∀ a, (X a).length = m) : ∀ (l : List α) (i : Nat) (h : i < l.length), (l.flatMap X).drop (i * m) = X l[i] ++ (l.drop (i + 1)).flatMap X
  | a :: l, 0, _ => by simp
  | a :: l, i + 1, h => by
    have e : (X a).drop m = [] := List.drop_of_length_le (by rw [hX]; omega)
    have ih := flat_at hX l i (by simpa using h)
    rw [List.flatMap_cons, show (i + 1) * m = m + i * m by rw [Nat.succ_mul]; omega, ← List.drop_drop, List.drop_append_of_le_length (by rw [hX]; omega), e, List.nil_append, ih]
    simp
theorem deeds_at (l : List DeedV) (i : Nat) (h : i < l.length) : (l.flatMap deedX).drop (i * 5) = deedX l[i] ++ (l.drop (i + 1)).flatMap deedX := flat_at (X := deedX) (m := 5) (fun _ => rfl) l i h

def stepD (rooms : List Int) (d : DeedV) (c : Chs) : Chs := stepS rooms d.k d.t d.c d.v d.l c
def nulC : Chs := ⟨nul 4, nul 4, nul 4⟩
def runD (rooms : List Int) (l : List DeedV) (k : Nat) : Chs := (l.take k).foldl (fun c d => stepD rooms d c) nulC
theorem runD_succ (rooms : List Int) {l : List DeedV} {k : Nat} (h : k < l.length) : runD rooms l (k + 1) = stepD rooms l[k] (runD rooms l k) := by
  unfold runD; rw [List.take_add_one, List.getElem?_eq_getElem h, List.foldl_append]; rfl

theorem nul_inv : Inv 4 0 nulC := ⟨⟨by omega, by omega, by simp [nulC, nul], by simp [nulC, nul], by simp [nulC, nul], by simp [nulC, nul], by simp [nulC, nul], by simp [nulC, nul], by omega⟩, by simp [nulC, nul]⟩
theorem run_inv (rooms : List Int) (l : List DeedV) : ∀ k, k ≤ 100 → k ≤ l.length → Inv 4 (5 * k) (runD rooms l k)
  | 0, _, _ => nul_inv
  | k + 1, h, hl => by
    rw [runD_succ rooms (by omega)]
    exact (run_inv rooms l k (by omega) (by omega)).step (by omega) rooms _ _ _ _ _

section
variable {n M ch : Nat} {c c' : Chs} {t x room : Int} {s0 J : List AObj} {id q r p : Nat} {v : List Nat}

theorem does_j {c : Chs} (Hb : Base s0 id q r p 4) (H : Inv 4 M c) (hM : M + 5 ≤ 900000) {rooms : List Int} (hr : rooms.length = 4) (hri : ∀ a ∈ rooms, I64 a) {d : DeedV} (hd : DeedOk d) :
    aCalls Try.prog 11 [.ptr id 0, dc c, four rooms, .agg (deedX d)] (putC s0 q r p c ++ J) v fun y s' v' => .tup [dc (stepD rooms d c), .bool true] = y ∧ putC s0 q r p (stepD rooms d c) ++ J = s' ∧ v <+: v' := by
  obtain ⟨h1, h2, h3, h4, h5⟩ := hd
  rw [← putC_app Hb, ← putC_app Hb]
  exact does_c (Hb.app J) H hM hr hri h1 h2 h3 (.inl rfl) h5.1

theorem same_j (Hb : Base s0 id q r p n) (H : Inv n M c) :
    aCalls Try.prog 10 [.agg (core q r p n), dc c] (putC s0 q r p c ++ J) v fun y s' v' => y = .bool true ∧ putC s0 q r p c ++ J = s' ∧ v = v' := by
  have hm := H.sz.m
  rw [← putC_app Hb]
  refine aCalls_mono (same_c (Hb.app J) H.sz.b H.sz.s H.sz.r (fun x hx => Nat.le_trans (H.sz.bb x hx) (by omega)) (fun x hx => Nat.le_trans (H.sz.bs x hx) (by omega)) (fun x hx => Nat.le_trans (H.sz.br x hx) (by omega))) ?_
  rintro _ _ _ ⟨rfl, rfl, rfl⟩
  exact ⟨by simp, rfl, rfl⟩

theorem chReady_j (Hb : Base s0 id q r p n) (H : Inv n M c) (hch : ch < n) :
    aCalls Try.prog 18 [.agg (core q r p n), .int .i64 ch] (putC s0 q r p c ++ J) v fun y s' v' => y = .bool (isReady c ch) ∧ putC s0 q r p c ++ J = s' ∧ v = v' := by
  have hm := H.sz.m
  have hb := row_at (L := c.b) (ch := ch) (by rw [H.sz.b]; exact hch)
  have hs := row_at (L := c.s) (ch := ch) (by rw [H.sz.s]; exact hch)
  have h1 := H.sz.bb _ (List.mem_of_getElem? hb)
  have h2 := H.sz.bs _ (List.mem_of_getElem? hs)
  rw [← putC_app Hb]
  exact ready_c (Hb.app J) hb hs H.sz.b (by omega)

theorem refReady_p (H : Inv n M c) (hch : ch < n) : PureE Try.prog 23 [dc c, .int .i64 ch] (.bool (isReady c ch)) := by
  have hb := row_at (L := c.b) (ch := ch) (by rw [H.sz.b]; exact hch)
  have hs := row_at (L := c.s) (ch := ch) (by rw [H.sz.s]; exact hch)
  have : isReady c ch = (decide (0 < (row c.b ch).length) || decide (0 < (row c.s ch).length)) := by
    unfold isReady; rw [Bool.eq_iff_iff]; simp; omega
  rw [this]
  exact refReady_c hb hs

theorem chSenders_j (Hb : Base s0 id q r p n) (H : Inv n M c) (hch : ch < n) :
    aCalls Try.prog 25 [.agg (core q r p n), .int .i64 ch] (putC s0 q r p c ++ J) v fun y s' v' => y = encI (firsts (row c.s ch)) ∧ putC s0 q r p c ++ J = s' ∧ v <+: v' := by
  have hm := H.sz.m
  have hs := row_at (L := c.s) (ch := ch) (by rw [H.sz.s]; exact hch)
  rw [← putC_app Hb]
  exact senders_c (Hb.app J) hs H.sz.s (H.ev _ (List.mem_of_getElem? hs)) (Nat.le_trans (H.sz.bs _ (List.mem_of_getElem? hs)) (by omega))

theorem refSenders_p (H : Inv n M c) (hch : ch < n) : PureC Try.prog 26 [dc c, .int .i64 ch] (encI (firsts (row c.s ch))) := by
  have hm := H.sz.m
  have hs := row_at (L := c.s) (ch := ch) (by rw [H.sz.s]; exact hch)
  exact refSenders_c hs (H.ev _ (List.mem_of_getElem? hs)) (Nat.le_trans (H.sz.bs _ (List.mem_of_getElem? hs)) (by omega))

theorem putC_at (Hb : Base s0 id q r p n) {k : Nat} (h1 : k ≠ q) (h2 : k ≠ r) (h3 : k ≠ p) (hk : k < s0.length) : (putC s0 q r p c ++ J)[k]? = s0[k]? := by
  rw [List.getElem?_append_left (by simpa using hk)]
  unfold putC put
  rw [List.getElem?_set_ne (Ne.symm h3), List.getElem?_set_ne (Ne.symm h2), List.getElem?_set_ne (Ne.symm h1)]
end
end Go.Hb
end

