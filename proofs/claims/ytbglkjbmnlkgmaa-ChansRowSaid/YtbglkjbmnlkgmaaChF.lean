import Derived.Test.YtbglkjbmnlkgmaaChE
namespace Go.Hb
open Go Go.Proofs Go.RowKit

section
variable {s : List AObj} {id q r p n ch : Nat} {t x room : Int} {B S R : Rows} {b σ ρ : List Int} {v : List Nat}

set_option maxRecDepth 10000 in
set_option maxHeartbeats 1000000 in
theorem sender_none (H : Base s id q r p n) (hs : S[ch]? = some []) (hS : S.length = n) :
    aCalls Try.prog 43 [.ptr id 0, .int .i64 ch] (put s q r p B S R) v fun y s' v' => y = .tup [.int .i64 (-1), .int .i64 0, .bool false] ∧ put s q r p B S R = s' ∧ v = v' := by
  have hch : ch < n := by have := get_lt hs; omega
  refine aCalls_of Try.func43 rfl (by decide) (by simp [Try.ntmps43]) false ?_
  simp [Try.f43, H.gi, H.gr, core, hch, hs, encI]

set_option maxRecDepth 10000 in
set_option maxHeartbeats 1000000 in
theorem sender_one (H : Base s id q r p n) {a c : Int} (hs : S[ch]? = some (a :: c :: σ)) (hS : S.length = n) (hl : σ.length ≤ 1000000) :
    aCalls Try.prog 43 [.ptr id 0, .int .i64 ch] (put s q r p B S R) v fun y s' v' => y = .tup [.int .i64 a, .int .i64 c, .bool true] ∧ put s q r p B (S.set ch σ) R = s' ∧ v = v' := by
  have hch : ch < n := by have := get_lt hs; omega
  have hne : ¬ ((σ.length : Int) + 1 + 1 = 0) := by omega
  refine aCalls_of Try.func43 rfl (by decide) (by simp [Try.ntmps43]) false ?_
  simp [Try.f43, H.gi, H.gr, core, hch, hs, encI, hne]
  refine aCalls_mono (by simpa using shift_r (m := 2) H hs (by simp)) ?_
  rintro _ _ _ ⟨rfl, rfl, rfl⟩
  refine aW_draw (.qs [0, 1, 2, 3, 4, 5, 6, 7, 8] .nil) mixed (by kernel_rfl) (by kernel_rfl) ?_
  simp [encI]

set_option maxRecDepth 10000 in
set_option maxHeartbeats 1000000 in
theorem take_sent (H : Base s id q r p n) {a c : Int} (hb : B[ch]? = some []) (hB : B.length = n) (hs : S[ch]? = some (a :: c :: σ)) (hS : S.length = n) (hl : σ.length ≤ 1000000) :
    aCalls Try.prog 34 [.ptr id 0, .int .i64 ch] (put s q r p B S R) v fun y s' v' => y = .tup [.int .i64 c, .int .i64 a] ∧ put s q r p B (S.set ch σ) R = s' ∧ v <+: v' := by
  have hch : ch < n := by have := get_lt hs; omega
  refine aCalls_of Try.func34 rfl (by decide) (by simp [Try.ntmps34]) false ?_
  simp [Try.f34]
  refine aCalls_mono (by simpa using sender_one H hs hS hl) ?_
  rintro _ _ _ ⟨rfl, rfl, rfl⟩
  simp [H.gi, H.gq, core, hch, hb, encI]

set_option maxRecDepth 10000 in
set_option maxHeartbeats 1000000 in
theorem take_lay (H : Base s id q r p n) {x : Int} (hb : B[ch]? = some (x :: b)) (hB : B.length = n) (hs : S[ch]? = some []) (hS : S.length = n) :
    aCalls Try.prog 34 [.ptr id 0, .int .i64 ch] (put s q r p B S R) v fun y s' v' => y = .tup [.int .i64 x, .int .i64 (-1)] ∧ put s q r p (B.set ch b) S R = s' ∧ v <+: v' := by
  have hch : ch < n := by have := get_lt hs; omega
  have hne : ¬ ((b.length : Int) + 1 = 0) := by omega
  refine aCalls_of Try.func34 rfl (by decide) (by simp [Try.ntmps34]) false ?_
  simp [Try.f34]
  refine aCalls_mono (by simpa using sender_none H hs hS) ?_
  rintro _ _ _ ⟨rfl, rfl, rfl⟩
  simp [H.gi, H.gq, core, hch, hb, encI, hne]
  refine aCalls_mono (by simpa using shift_q (m := 1) H hb (by simp)) ?_
  rintro _ _ _ ⟨rfl, rfl, rfl⟩
  simp [encI]

set_option maxRecDepth 10000 in
set_option maxHeartbeats 1000000 in
theorem take_both (H : Base s id q r p n) {x a c : Int} (hb : B[ch]? = some (x :: b)) (hB : B.length = n) (hs : S[ch]? = some (a :: c :: σ)) (hS : S.length = n) (hl : σ.length ≤ 1000000) (hbl : b.length + 2 ≤ 1000000) :
    aCalls Try.prog 34 [.ptr id 0, .int .i64 ch] (put s q r p B S R) v fun y s' v' => y = .tup [.int .i64 x, .int .i64 a] ∧ put s q r p (B.set ch (b ++ [c])) (S.set ch σ) R = s' ∧ v <+: v' := by
  have hch : ch < n := by have := get_lt hs; omega
  have hne : ¬ ((b.length : Int) + 1 = 0) := by omega
  refine aCalls_of Try.func34 rfl (by decide) (by simp [Try.ntmps34]) false ?_
  simp [Try.f34]
  refine aCalls_mono (by simpa using sender_one H hs hS hl) ?_
  rintro _ _ _ ⟨rfl, rfl, rfl⟩
  simp [H.gi, H.gq, core, hch, hb, encI, hne, zeros]
  refine aCalls_args (args' := [.ptr q ch, encI [c]]) ⟨Weak.refl _, Weak.imm _ _ _ _, trivial⟩ ?_
  refine aCalls_mono (push_q H hb (by simp; omega) (by simp)) ?_
  rintro _ _ _ ⟨rfl, rfl, hv⟩
  simp [H.gi, H.gq, core, hch]
  have hb2 : (B.set ch (x :: b ++ [c]))[ch]? = some (x :: (b ++ [c])) := by rw [List.getElem?_set_self (get_lt hb)]; rfl
  refine aCalls_mono (by simpa using shift_q (m := 1) H hb2 (by simp)) ?_
  rintro _ _ _ ⟨rfl, rfl, rfl⟩
  simp [encI, hv]
end
end Go.Hb
