import Derived.Test.YtbglkjbmnlkgmaaHbTy
namespace Go.Hb
open Go Go.Proofs Go.RowKit

theorem ofNat_toNat' (k : Nat) : ((k : Int)).toNat = k := Int.toNat_natCast k

theorem push_c {id off : Nat} {cs : List LV} {l xs : List Int} {s : List AObj} {v : List Nat} (hs : s[id]? = some (.cells cs)) (hc : cs[off]? = some (encI l)) (hb : l.length + xs.length ≤ 1000000) (h1 : xs ≠ []):
    aCalls Try.prog 33 [.ptr id off, encI xs] s v fun x s' v' => x = .tup [] ∧ s.set id (.cells (cs.set off (encI (l ++ xs)))) = s' ∧ v <+: v' := by
  refine aCalls_weak (aCalls_of Try.func33 rfl (by decide) (by simp [Try.ntmps33]) false ?_)
  have h0 : xs.length ≠ 0 := by simpa using h1
  have hm : l.length + xs.length ≤ maxLen := by unfold maxLen; omega
  have hm2 : (l.length + xs.length) * 8 ≤ 140737488355328 := by omega
  have hoff : off + 1 ≤ cs.length := (List.getElem?_eq_some_iff.1 hc).1
  have htk : List.take l.length (List.map (LV.int .i64) l) = List.map (LV.int .i64) l := List.take_of_length_le (by simp)
  simp [Try.f33, encI] at hc ⊢
  simp [hs, hc, h0, hm, hm2, hoff, htk]
  exact ⟨Weak.refl _, WeakS.set (Weaks.set (Weaks.refl _) (Weak.imm _ _ _ _))⟩

theorem shift_c {id off n : Nat} {cs : List LV} {l : List Int} {s : List AObj} {v : List Nat} (hs : s[id]? = some (.cells cs)) (hc : cs[off]? = some (encI l)) (hn : n ≤ l.length) :
    aCalls Try.prog 44 [.ptr id off, .int .i64 n] s v fun x s' v' => x = encI (l.take n) ∧ s.set id (.cells (cs.set off (encI (l.drop n)))) = s' ∧ v = v' := by
  refine aCalls_weak (aCalls_of Try.func44 rfl (by decide) (by simp [Try.ntmps44]) false ?_)
  have hoff : off + 1 ≤ cs.length := (List.getElem?_eq_some_iff.1 hc).1
  have hn' : (n : Int) ≤ (l.length : Int) := by omega
  have hmin : min n l.length = n := by omega
  have htk : List.take (l.length - n) (List.drop n (List.map (LV.int .i64) l)) = List.map (LV.int .i64) (l.drop n) := by
    rw [← List.map_drop]; exact List.take_of_length_le (by simp)
  simp [Try.f44, encI] at hc ⊢
  simp [hs, hc, hoff, hn, hn', hmin, htk]
  exact ⟨by rw [← List.map_take]; exact Weak.imm _ _ _ _, WeakS.set (Weaks.set (Weaks.refl _) (Weak.imm _ _ _ _))⟩

theorem is_c {i0 : Nat} {x t : Int} {s : List AObj} {v : List Nat} (hs : s[i0]? = some (.cells [.int .i64 t])) :
    aCalls Try.prog 38 [.int .i64 x, .ptr i0 0] s v fun r s' v' => r = .bool (decide (x = t)) ∧ s = s' ∧ v = v' := by
  refine aCalls_of Try.func38 rfl (by decide) (by simp [Try.ntmps38]) false ?_
  simp [Try.f38, hs]

theorem clone_nil {s : List AObj} {v : List Nat} : aCalls Try.prog 37 [encI []] s v fun r s' v' => r = encI [] ∧ s = s' ∧ v = v' := by
  refine aCalls_weak (aCalls_emp (aCalls_of Try.func37 rfl (by decide) (by simp [Try.ntmps37]) false ?_) (aCalls_of Try.func37 rfl (by decide) (by simp [Try.ntmps37]) false ?_))
  · simp [Try.f37, encI]
    exact ⟨Weak.nils _ _ (.inl rfl), WeakS.refl _⟩
  · simp [Try.f37, encI, maxLen]
    exact ⟨Weak.imm _ _ _ _, WeakS.refl _⟩

theorem clone_own {l : List Int} {s : List AObj} {v : List Nat} (hl : l ≠ []) (hb : l.length ≤ 1000000) : aCalls Try.prog 37 [encI l] s v fun r s' v' => r = .ref 1 s.length 0 l.length false ∧ s ++ [.cells (l.map (.int .i64))] = s' ∧ v = v' := by
  refine aCalls_of Try.func37 rfl (by decide) (by simp [Try.ntmps37]) true ?_
  have hm : l.length ≤ maxLen := by unfold maxLen; omega
  have hm2 : l.length * 8 ≤ 140737488355328 := by omega
  simp [Try.f37, encI, hl, hm, hm2]
end Go.Hb
