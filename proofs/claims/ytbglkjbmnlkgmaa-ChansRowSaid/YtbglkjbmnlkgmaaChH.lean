import Derived.Test.YtbglkjbmnlkgmaaChG
namespace Go.Hb
open Go Go.Proofs Go.RowKit

theorem aRound_args {P : Program} {l : Nat} {args args' : List LV} {s : List AObj} {v : List Nat} {Q : LV → List AObj → List Nat → Prop} (hw : Weaks args args') (h : aRound P l args' s v Q) : aRound P l args s v Q :=
  fun C vs h1 h2 h3 => h C vs h1 h2 (hw.rel h3)

theorem chunk_c {l : List Int} {s : List AObj} {v : List Nat} :
    aCalls Try.prog 40 [encI l, .int .i64 2] s v fun x s' v' => x = .fn (.func 47) [] [.ptr s.length 0, .ptr (s.length + 1) 0] ∧ s ++ [.cells [encI l], .cells [.int .i64 2]] = s' ∧ v = v' := by
  refine aCalls_of Try.func40 rfl (by decide) (by simp [Try.ntmps40]) false ?_
  simp [Try.f40, encI]

theorem drop_two {l : List Int} {k : Nat} {a c : Int} (ha : l[k]? = some a) (hc : l[k + 1]? = some c) : (l.drop k).take 2 = [a, c] := by
  apply List.ext_getElem?
  intro i
  match i with
  | 0 => simp [ha]
  | 1 => simp [hc]
  | i + 2 =>
    rw [List.getElem?_take, if_neg (by omega)]; rfl

set_option maxRecDepth 10000 in
set_option maxHeartbeats 2000000 in
theorem chunk1_c {l i1 i2 : Nat} {σ : List Int} {J : Nat → List AObj → List Nat → Prop} {s : List AObj} {v : List Nat} (he : σ.length % 2 = 0) (hb : σ.length ≤ 1000000) (h0 : J 0 s v)
    (hJ : ∀ k s v, J k s v → s[i1]? = some (.cells [encI σ]) ∧ s[i2]? = some (.cells [.int .i64 2]))
    (hY : ∀ k s v, J k s v → ∀ a c, σ[2 * k]? = some a → σ[2 * k + 1]? = some c → aRound Try.prog l [encI [a, c]] s v fun x s' v' => x = .bool true ∧ J (k + 1) s' v') :
    aCalls Try.prog 47 [.yld l, .ptr i1 0, .ptr i2 0] s v fun _ s' v' => J (σ.length / 2) s' v' := by
  refine aCalls_of Try.func47 rfl (by decide) (by simp [Try.ntmps47]) false ?_
  simp [Try.f47]
  refine aW_loopC false (fun st => ∃ k : Nat, 2 * k ≤ σ.length ∧ st.t 4 = .int .i64 (2 * k : Nat) ∧ st.t 0 = .yld l ∧ st.t 1 = .ptr i1 0 ∧ st.t 2 = .ptr i2 0 ∧ J k st.s st.v) (fun st => σ.length - numOf (st.t 4)) ?_ ?_
  · exact ⟨0, by simp [upd_apply, h0]⟩
  rintro t1 s1 v1 ⟨k, hk, h4, hy, h1, h2, hJk⟩
  simp only at h4 hy h1 h2 hJk
  obtain ⟨a1, a2⟩ := hJ _ _ _ hJk
  by_cases hlt : 2 * k < σ.length
  · have hlt' : ((2 * k : Nat) : Int) < (σ.length : Int) := by omega
    have ha : σ[2 * k]? = some σ[2 * k] := List.getElem?_eq_getElem hlt
    have hl1 : 2 * k + 1 < σ.length := by omega
    have hc : σ[2 * k + 1]? = some σ[2 * k + 1] := List.getElem?_eq_getElem hl1
    have hd := drop_two ha hc
    have hY' := hY _ _ _ hJk _ _ ha hc
    generalize σ[2 * k] = a at ha hd hY'
    generalize σ[2 * k + 1] = c at hc hd hY'
    have hw : IntKind.i64.wrap (((2 * k : Nat) : Int) + 2) = ((2 * k + 2 : Nat) : Int) := by rw [IntWalk.i64_in _ ⟨by omega, by omega⟩]; omega
    generalize hm : 2 * k = m at *
    simp [h4, hy, h1, h2, a1, a2, encI, hlt]
    refine aW_draw (.qs [0, 1, 2, 3, 4, 5, 6] .nil) mixed (by kernel_rfl) (by kernel_rfl) ?_
    have h7 : m ≤ σ.length := by omega
    have h8 : (m : Int) + 2 ≤ σ.length := by omega
    have h9 : ¬ ((σ.length - m : Nat) : Int) < 2 := by omega
    have htn : ((m : Int) + 2).toNat = m + 2 := by omega
    have h10 : m + 2 - m = 2 := by omega
    have h11 : (m : Int) ≤ (m : Int) + 2 := by omega
    have h12 : IntKind.i64.wrap ((m : Int) + 2) = (m : Int) + 2 := by rw [hw]; omega
    have hd2 : List.take 2 (List.drop m (List.map (LV.int .i64) σ)) = [.int .i64 a, .int .i64 c] := by rw [← List.map_drop, ← List.map_take, hd]; rfl
    simp [h4, hy, h1, h2, a1, a2, encI, h7, h8, h9, h11, h12, htn, hd2]
    refine aRound_args (args' := [encI [a, c]]) ⟨Weak.imm _ _ _ _, trivial⟩ ?_
    refine aRound_mono hY' ?_
    rintro _ s' v' ⟨rfl, hJ1⟩
    simp [(hJ _ _ _ hJ1).2, h12, numOf, htn]
    exact ⟨⟨k + 1, by omega, by omega, hJ1⟩, by omega⟩
  · have hlt' : ¬ ((2 * k : Nat) : Int) < (σ.length : Int) := by omega
    have : k = σ.length / 2 := by omega
    generalize hm : 2 * k = m at *
    simp [h4, h1, a1, encI, hlt]
    rw [← this]; exact hJk

/-- Who waits to send, of the numbers of a row. -/
def firsts : List Int → List Int
  | a :: _ :: l => a :: firsts l
  | _ => []
theorem firsts_length : ∀ l : List Int, (firsts l).length = l.length / 2
  | [] => rfl
  | [_] => by simp [firsts]
  | a :: b :: l => by simp [firsts, firsts_length l]; omega
theorem firsts_succ : ∀ (l : List Int) (k : Nat) (a c : Int), l[2 * k]? = some a → l[2 * k + 1]? = some c → (firsts l).take (k + 1) = (firsts l).take k ++ [a]
  | [], k, a, c, h, _ => by simp at h
  | [x], k, a, c, h, h2 => by simp at h2
  | x :: y :: l, 0, a, c, h, h2 => by simp at h; subst h; simp [firsts]
  | x :: y :: l, k + 1, a, c, h, h2 => by
    have e1 : 2 * (k + 1) = 2 * k + 1 + 1 := by omega
    rw [e1] at h h2
    simp only [List.getElem?_cons_succ] at h h2
    have := firsts_succ l k a c h h2
    simp only [firsts, List.take_succ_cons, this, List.cons_append]

/-- A row that grows at its end, one by one. -/
def outV (v : List Nat) (l : List Int) : Nat → LV
  | 0 => .nils
  | k + 1 => .imm 1 (k + 1) ((l.take (k + 1)).map (.int .i64)) (.tip v.length k)
def outT (v : List Nat) : Nat → List Nat
  | 0 => v
  | k + 1 => v ++ [k]
theorem outT_pre (v : List Nat) (k : Nat) : v <+: outT v k := by cases k <;> simp [outT]
theorem outV_weak (v : List Nat) (l : List Int) : Weak (outV v l l.length) (encI l) := by
  cases h : l.length with
  | zero => have := List.length_eq_zero_iff.1 h; subst this; exact Weak.nils _ _ (.inl rfl)
  | succ k => simp only [outV, encI, h, List.take_of_length_le (Nat.le_of_eq h)]; exact Weak.imm _ _ _ _
theorem outV_under (v : List Nat) (l : List Int) (k n : Nat) : (outV v l k).under n = true := by
  cases k with
  | zero => rfl
  | succ k => simp only [outV, LV.under]; exact ints_under _ _

section
variable {s : List AObj} {id q r p n ch : Nat} {t x room : Int} {B S R : Rows} {b σ ρ : List Int} {v : List Nat}
set_option maxRecDepth 10000 in
set_option maxHeartbeats 2000000 in
theorem senders_c (H : Base s id q r p n) (hs : S[ch]? = some σ) (hS : S.length = n) (he : σ.length % 2 = 0) (hl : σ.length ≤ 1000000) :
    aCalls Try.prog 25 [.agg (core q r p n), .int .i64 ch] (put s q r p B S R) v fun y s' v' => y = encI (firsts σ) ∧ put s q r p B S R = s' ∧ v <+: v' := by
  have hch : ch < n := by have := get_lt hs; omega
  have hw : ∀ l, (put s q r p B S R ++ l)[r]? = some (.cells (S.map encI)) := fun l => by rw [get_old (by simpa using H.hr), H.gr]
  have hw0 : ∀ l, (put s q r p B S R ++ l)[s.length]? = l[0]? := fun l => get_at0 (by simp)
  have hw1 : ∀ l k, (put s q r p B S R ++ l)[s.length + k]? = l[k]? := fun l k => get_at (by simp) k
  have hst : ∀ l k o, (put s q r p B S R ++ l).set (s.length + k) o = put s q r p B S R ++ l.set k o := fun l k o => set_at (by simp) k o
  refine aCalls_weak (aCalls_drop ?_)
  refine aCalls_of Try.func25 rfl (by decide) (by simp [Try.ntmps25]) false ?_
  simp [Try.f25, core, hw, hw0, hw1, hst, hch, hs]
  refine aCalls_mono (by simpa using chunk_c) ?_
  rintro _ _ _ ⟨rfl, rfl, rfl⟩
  simp
  refine aW_range (g := 47) (fa := []) (ca := [.ptr (s.length + 2) 0, .ptr (s.length + 3) 0]) (by simp) rfl ?_
  simp
  generalize hlo : ALoop.mk LoopState.ready none _ _ _ _ _ = lo
  let J : Nat → List AObj → List Nat → Prop := fun k s' v' => ∃ K, put s q r p B S R ++ ([.cells (core q r p n), .cells [outV v (firsts σ) k], .cells [encI σ], .cells [.int .i64 2], .loop lo] ++ K) = s' ∧ outT v k = v'
  refine aCalls_mono (chunk1_c (J := J) (σ := σ) he hl ?_ ?_ ?_) ?_
  · exact ⟨[], rfl, rfl⟩
  · rintro k _ _ ⟨K, rfl, rfl⟩
    rw [hw1, hw1]; exact ⟨rfl, rfl⟩
  · rintro k _ _ ⟨K, rfl, rfl⟩ a c ha hc
    refine aRound_of (lp := lo) (by rw [hw1]; rfl) (by subst hlo; rfl) (by subst hlo; simp) ?_
    have hla := congrArg ALoop.assign hlo.symm
    have hbo := congrArg ALoop.body hlo.symm
    have ht := congrArg ALoop.tmps hlo.symm
    have hpa := congrArg ALoop.params hlo.symm
    have hsz := congrArg ALoop.size hlo.symm
    have hst' := congrArg ALoop.state hlo.symm
    have hpe := congrArg ALoop.pending hlo.symm
    simp only at hla hbo ht hpa hsz hst' hpe
    rw [hla, hbo, hsz, hpa, ht]
    refine aC_sound (own := false) _ _ _ ?_
    simp [setParams, hw1, hst, hst', hpe]
    refine aC_sound (own := false) _ _ _ ?_
    simp
    refine aW_draw (.qs [0, 1, 2, 3, 4] (.w 5 [] (.w 6 [] .nil))) mixed (by kernel_rfl) (by kernel_rfl) ?_
    have hk : (k + 1) ≤ (firsts σ).length := by rw [firsts_length]; have := get_lt hc; omega
    have hfl : (firsts σ).length = σ.length / 2 := firsts_length σ
    have hfs := firsts_succ σ k a c ha hc
    clear hla hbo ht
    have hlo2 : ({ state := .ready, pending := none, tmps := lo.tmps, size := lo.size, params := lo.params, assign := lo.assign, body := lo.body } : ALoop) = lo := by
      cases lo; simp only at hst' hpe; subst hst'; subst hpe; rfl
    cases k with
    | zero =>
      have hm1 : 1 ≤ maxLen := by unfold maxLen; omega
      simp [encI, hw1, hst, outV, outT, zeros, hm1]
      refine ⟨_, by rw [hw1]; rfl, rfl, K, ?_, rfl⟩
      simp only [hst, outV, hfs]
      simp [hlo2, encI]
    | succ k =>
      have hm1 : k + 1 + 1 ≤ maxLen := by unfold maxLen; omega
      have hm2 : (k + 1 + 1) * 8 ≤ 140737488355328 := by omega
      simp [encI, hw1, hst, outV, outT, zeros, hm1, hm2]
      refine ⟨_, by rw [hw1]; rfl, rfl, K, ?_, rfl⟩
      simp only [hst, outV, hfs]
      simp [hlo2, encI]
  · rintro _ _ _ ⟨K, rfl, rfl⟩
    refine ⟨lo, by rw [hw1]; rfl, by subst hlo; simp, ?_⟩
    subst hlo
    simp only [hst]
    generalize AObj.loop _ = ob
    simp [hw1]
    refine ⟨_, ⟨_, rfl⟩, by simp, outV_under _ _ _ _, fun i o h => .inl h, ?_⟩
    rw [← firsts_length]
    exact ⟨_, outV_weak _ _, _, WeakS.refl _, rfl, rfl, outT_pre _ _⟩
end
end Go.Hb
