import Derived.Test.YtbglkjbmnlkgmaaChD
namespace Go.Hb
open Go Go.Proofs Go.RowKit

abbrev Rows := List (List Int)

def put (s : List AObj) (q r p : Nat) (B S R : Rows) : List AObj := ((s.set q (.cells (B.map encI))).set r (.cells (S.map encI))).set p (.cells (R.map encI))

structure Base (s : List AObj) (id q r p n : Nat) : Prop where
  hc : s[id]? = some (.cells (core q r p n))
  hq : q < s.length
  hr : r < s.length
  hp : p < s.length
  iq : id ≠ q
  ir : id ≠ r
  ip : id ≠ p
  qr : q ≠ r
  qp : q ≠ p
  rp : r ≠ p
  hn : n ≤ 1000000

section
variable {s : List AObj} {id q r p n : Nat} (H : Base s id q r p n) (B S R : Rows)
include H
theorem Base.gi : (put s q r p B S R)[id]? = some (.cells (core q r p n)) := by
  unfold put; rw [List.getElem?_set_ne (Ne.symm H.ip), List.getElem?_set_ne (Ne.symm H.ir), List.getElem?_set_ne (Ne.symm H.iq), H.hc]
theorem Base.gq : (put s q r p B S R)[q]? = some (.cells (B.map encI)) := by
  unfold put; rw [List.getElem?_set_ne (Ne.symm H.qp), List.getElem?_set_ne (Ne.symm H.qr), List.getElem?_set_self (by simpa using H.hq)]
theorem Base.gr : (put s q r p B S R)[r]? = some (.cells (S.map encI)) := by
  unfold put; rw [List.getElem?_set_ne (Ne.symm H.rp), List.getElem?_set_self (by simpa using H.hr)]
theorem Base.gp : (put s q r p B S R)[p]? = some (.cells (R.map encI)) := by
  unfold put; rw [List.getElem?_set_self (by simpa using H.hp)]
theorem Base.sq (B' : Rows) : (put s q r p B S R).set q (.cells (B'.map encI)) = put s q r p B' S R := by
  unfold put; rw [List.set_comm _ _ (Ne.symm H.qp), List.set_comm _ _ (Ne.symm H.qr), List.set_set]
theorem Base.sr (S' : Rows) : (put s q r p B S R).set r (.cells (S'.map encI)) = put s q r p B S' R := by
  unfold put; rw [List.set_comm _ _ (Ne.symm H.rp), List.set_set]
theorem Base.sp (R' : Rows) : (put s q r p B S R).set p (.cells (R'.map encI)) = put s q r p B S R' := by
  have := H.hp; unfold put; rw [List.set_set]
end
@[simp] theorem put_length (s : List AObj) (q r p : Nat) (B S R : Rows) : (put s q r p B S R).length = s.length := by simp [put]

section
variable {s : List AObj} {id q r p n ch : Nat} {t x room : Int} {B S R : Rows} {b σ ρ : List Int} {v : List Nat}

theorem aCalls_args {P : Program} {f : FuncId} {args args' : List LV} {s : List AObj} {v : List Nat} {Q : LV → List AObj → List Nat → Prop} (hw : Weaks args args') (h : aCalls P f args' s v Q) : aCalls P f args s v Q :=
  ⟨h.1, fun C vs h1 h2 h3 => h.2 C vs h1 h2 (hw.rel h3)⟩

theorem cancel_p (H : Base s id q r p n) (hR : R.length = n) (hb : ∀ x ∈ R, x.length ≤ 1000000) :
    aCalls Try.prog 20 [.ptr id 0, .int .i64 t] (put s q r p B S R) v fun x s' v' => x = .bool (R.any fun l => l.contains t) ∧ put s q r p B S (R.map (del t)) = s' ∧ v = v' := by
  refine aCalls_mono (cancel_c H.hn hR hb (H.gi B S R) (H.gp B S R) H.ip) ?_
  rintro _ _ _ ⟨rfl, rfl, rfl⟩
  refine ⟨rfl, ?_, rfl⟩
  rw [← H.sp B S R, List.map_map]; rfl

theorem push_q (H : Base s id q r p n) {xs : List Int} (hB : B[ch]? = some b) (hb : b.length + xs.length ≤ 1000000) (h1 : xs ≠ []) :
    aCalls Try.prog 33 [.ptr q ch, encI xs] (put s q r p B S R) v fun x s' v' => x = .tup [] ∧ put s q r p (B.set ch (b ++ xs)) S R = s' ∧ v <+: v' := by
  refine aCalls_mono (push_c (H.gq B S R) (by rw [List.getElem?_map, hB]; rfl) hb h1) ?_
  rintro _ _ _ ⟨rfl, rfl, h⟩
  exact ⟨rfl, by rw [← List.map_set, H.sq], h⟩
theorem push_r (H : Base s id q r p n) {xs : List Int} (hB : S[ch]? = some b) (hb : b.length + xs.length ≤ 1000000) (h1 : xs ≠ []) :
    aCalls Try.prog 33 [.ptr r ch, encI xs] (put s q r p B S R) v fun x s' v' => x = .tup [] ∧ put s q r p B (S.set ch (b ++ xs)) R = s' ∧ v <+: v' := by
  refine aCalls_mono (push_c (H.gr B S R) (by rw [List.getElem?_map, hB]; rfl) hb h1) ?_
  rintro _ _ _ ⟨rfl, rfl, h⟩
  exact ⟨rfl, by rw [← List.map_set, H.sr], h⟩
theorem push_p (H : Base s id q r p n) {xs : List Int} (hB : R[ch]? = some b) (hb : b.length + xs.length ≤ 1000000) (h1 : xs ≠ []) :
    aCalls Try.prog 33 [.ptr p ch, encI xs] (put s q r p B S R) v fun x s' v' => x = .tup [] ∧ put s q r p B S (R.set ch (b ++ xs)) = s' ∧ v <+: v' := by
  refine aCalls_mono (push_c (H.gp B S R) (by rw [List.getElem?_map, hB]; rfl) hb h1) ?_
  rintro _ _ _ ⟨rfl, rfl, h⟩
  exact ⟨rfl, by rw [← List.map_set, H.sp], h⟩
theorem shift_q (H : Base s id q r p n) {m : Nat} (hB : B[ch]? = some b) (hm : m ≤ b.length) :
    aCalls Try.prog 44 [.ptr q ch, .int .i64 m] (put s q r p B S R) v fun x s' v' => x = encI (b.take m) ∧ put s q r p (B.set ch (b.drop m)) S R = s' ∧ v = v' := by
  refine aCalls_mono (shift_c (H.gq B S R) (by rw [List.getElem?_map, hB]; rfl) hm) ?_
  rintro _ _ _ ⟨rfl, rfl, h⟩
  exact ⟨rfl, by rw [← List.map_set, H.sq], h⟩
theorem shift_r (H : Base s id q r p n) {m : Nat} (hB : S[ch]? = some b) (hm : m ≤ b.length) :
    aCalls Try.prog 44 [.ptr r ch, .int .i64 m] (put s q r p B S R) v fun x s' v' => x = encI (b.take m) ∧ put s q r p B (S.set ch (b.drop m)) R = s' ∧ v = v' := by
  refine aCalls_mono (shift_c (H.gr B S R) (by rw [List.getElem?_map, hB]; rfl) hm) ?_
  rintro _ _ _ ⟨rfl, rfl, h⟩
  exact ⟨rfl, by rw [← List.map_set, H.sr], h⟩

theorem get_lt {α : Type} {l : List α} {k : Nat} {x : α} (h : l[k]? = some x) : k < l.length := (List.getElem?_eq_some_iff.1 h).1

set_option maxHeartbeats 1000000 in
theorem send_meet (H : Base s id q r p n) {f : Int} (hR : R.length = n) (hb : ∀ x ∈ R, x.length ≤ 1000000) (hr : R[ch]? = some (f :: ρ)) :
    aCalls Try.prog 15 [.ptr id 0, .int .i64 ch, .int .i64 room, .int .i64 t, .int .i64 x] (put s q r p B S R) v fun y s' v' => y = .tup [.int .i64 f, .bool true] ∧ put s q r p B S (R.map (del f)) = s' ∧ v = v' := by
  have hch : ch < n := by have := get_lt hr; omega
  refine aCalls_of Try.func15 rfl (by decide) (by simp [Try.ntmps15]) false ?_
  simp [Try.f15, H.gi, H.gp, core, hch, hr, encI]
  exact aCalls_mono (cancel_p H hR hb) fun _ _ _ h => h.2

set_option maxHeartbeats 1000000 in
theorem send_lay (H : Base s id q r p n) (hr : R[ch]? = some []) (hb : B[ch]? = some b) (hR : R.length = n) (hB : B.length = n) (hl : b.length + 1 ≤ 1000000) (hroom : (b.length : Int) < room) :
    aCalls Try.prog 15 [.ptr id 0, .int .i64 ch, .int .i64 room, .int .i64 t, .int .i64 x] (put s q r p B S R) v fun y s' v' => y = .tup [.int .i64 (-1), .bool true] ∧ put s q r p (B.set ch (b ++ [x])) S R = s' ∧ v <+: v' := by
  have hch : ch < n := by have := get_lt hr; omega
  refine aCalls_of Try.func15 rfl (by decide) (by simp [Try.ntmps15]) false ?_
  simp [Try.f15, H.gi, H.gp, H.gq, core, hch, hr, encI, hb, hroom, zeros]
  refine aCalls_args (args' := [.ptr q ch, encI [x]]) ⟨Weak.refl _, Weak.imm _ _ _ _, trivial⟩ ?_
  refine aCalls_mono (push_q H hb (by simpa using hl) (by simp)) fun _ _ _ h => h.2

set_option maxRecDepth 4000 in
set_option maxHeartbeats 1000000 in
theorem send_wait (H : Base s id q r p n) (hr : R[ch]? = some []) (hb : B[ch]? = some b) (hs : S[ch]? = some σ) (hR : R.length = n) (hB : B.length = n) (hl : σ.length + 2 ≤ 1000000) (hroom : ¬ (b.length : Int) < room) :
    aCalls Try.prog 15 [.ptr id 0, .int .i64 ch, .int .i64 room, .int .i64 t, .int .i64 x] (put s q r p B S R) v fun y s' v' => y = .tup [.int .i64 (-1), .bool false] ∧ put s q r p B (S.set ch (σ ++ [t, x])) R = s' ∧ v <+: v' := by
  have hch : ch < n := by have := get_lt hr; omega
  refine aCalls_of Try.func15 rfl (by decide) (by simp [Try.ntmps15]) false ?_
  simp [Try.f15, H.gi, H.gp, H.gq, H.gr, core, hch, hr, encI, hb, hroom, zeros]
  refine aCalls_args (args' := [.ptr r ch, encI [t, x]]) ⟨Weak.refl _, Weak.imm _ _ _ _, trivial⟩ ?_
  refine aCalls_mono (push_r H hs (by simpa using hl) (by simp)) fun _ _ _ h => h.2

theorem ready_c (H : Base s id q r p n) (hb : B[ch]? = some b) (hs : S[ch]? = some σ) (hB : B.length = n) (hl : b.length + σ.length ≤ 3000000) :
    aCalls Try.prog 18 [.agg (core q r p n), .int .i64 ch] (put s q r p B S R) v fun y s' v' => y = .bool (decide (0 < b.length + σ.length)) ∧ put s q r p B S R = s' ∧ v = v' := by
  have hch : ch < n := by have := get_lt hb; omega
  refine aCalls_drop ?_
  refine aCalls_of Try.func18 rfl (by decide) (by simp [Try.ntmps18]) false ?_
  simp [Try.f18, core]
  refine aW_draw (.qs [0, 1, 2, 3, 4, 5, 6, 7, 8, 9, 10, 11, 12, 13, 14] .nil) mixed (by kernel_rfl) (by kernel_rfl) ?_
  have hq' : q < (put s q r p B S R).length := by simpa using H.hq
  have hr' : r < (put s q r p B S R).length := by simpa using H.hr
  have hw : IntKind.i64.wrap ((b.length : Int) + σ.length) = ((b.length + σ.length : Nat) : Int) := by rw [IntWalk.i64_in _ ⟨by omega, by omega⟩]; omega
  simp [get_old hq', get_old hr', H.gq, H.gr, hb, hs, encI, hch, hw]
  exact ⟨_, ⟨_, rfl⟩, by simp, by simp [LV.under], fun i o h => .inl h, by omega, rfl⟩
end
end Go.Hb
