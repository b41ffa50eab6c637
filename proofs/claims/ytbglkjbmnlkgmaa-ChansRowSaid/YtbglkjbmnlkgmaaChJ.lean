import Derived.Test.YtbglkjbmnlkgmaaChI
import Derived.Test.YtbglkjbmnlkgmaaHbZ
namespace Go.Hb
open Go Go.Proofs Go.RowKit

def nul (n : Nat) : Rows := List.replicate n []
theorem empt_eq (n : Nat) : empt n = (nul n).map encI := by simp [empt, nul]

/-- A world with a new state of channels. -/
def anew (s : List AObj) (q r p n : Nat) : List AObj := s ++ [.cells (core q r p n), .cells (empt n), .cells (empt n), .cells (empt n), .cells (core q r p n)]

theorem anew_get {s : List AObj} {q r p n i : Nat} (h : s.length < i) (h2 : i < s.length + 4) : (anew s q r p n)[i]? = some (.cells ((nul n).map encI)) := by
  unfold anew
  rw [List.getElem?_append_right (by omega), ← empt_eq]
  have : i - s.length = 1 ∨ i - s.length = 2 ∨ i - s.length = 3 := by omega
  rcases this with e | e | e <;> rw [e] <;> rfl

theorem anew_base {s : List AObj} {q r p n : Nat} (h : fresh s q r p) (hn : n ≤ 1000000) : Base (anew s q r p n) (s.length + 4) q r p n := by
  obtain ⟨h1, h2, h3, h4, h5, h6, h7, h8, h9⟩ := h
  have hl : (anew s q r p n).length = s.length + 5 := by simp [anew]
  exact ⟨by unfold anew; rw [get_app]; rfl, by omega, by omega, by omega, by omega, by omega, by omega, h7, h8, h9, hn⟩

theorem anew_put {s : List AObj} {q r p n : Nat} (h : fresh s q r p) : put (anew s q r p n) q r p (nul n) (nul n) (nul n) = anew s q r p n := by
  obtain ⟨h1, h2, h3, h4, h5, h6, h7, h8, h9⟩ := h
  unfold put
  rw [set_same (anew_get h1 h2), set_same (anew_get h3 h4), set_same (anew_get h5 h6)]

theorem set_beyond (s l : List AObj) (i : Nat) (o : AObj) (h : s.length ≤ i) : (s ++ l).set i o = s ++ l.set (i - s.length) o := by
  rw [List.set_append_right _ _ h]

theorem put_beyond {s : List AObj} {q r p n : Nat} (h : fresh s q r p) (B S R : Rows) : ∃ J, put (anew s q r p n) q r p B S R = s ++ J := by
  obtain ⟨h1, h2, h3, h4, h5, h6, h7, h8, h9⟩ := h
  unfold put anew
  rw [set_beyond _ _ _ _ (by omega), set_beyond _ _ _ _ (by omega), set_beyond _ _ _ _ (by omega)]
  exact ⟨_, rfl⟩

theorem add5 (s : List AObj) (a b c d e : AObj) : s ++ [a, b, c, d] ++ [e] = s ++ [a, b, c, d, e] := by simp

attribute [-simp] aC aL aOper aThen aInBlock aIf

set_option maxRecDepth 10000 in
set_option maxHeartbeats 4000000 in
theorem lives_c {s : List AObj} {v : List Nat} :
    aCalls Try.prog 13 [] s v fun y s' v' => y = .bool true ∧ s = s' ∧ v <+: v' := by
  refine aCalls_drop ?_
  refine aCalls_of Try.func13 rfl (by decide) (by simp) false ?_
  simp [Try.ntmps13]
  refine aCalls_mono (by simpa using new_c (n := 1) (by omega) (by omega)) ?_
  rintro _ _ _ ⟨q, r, p, hf, rfl, rfl, rfl⟩
  have H : Base (anew s q r p 1) (s.length + 4) q r p 1 := anew_base hf (by omega)
  have hid : ∀ l : List AObj, ∀ k, (s ++ l)[s.length + k]? = l[k]? := fun l k => get_app s l k
  have hset : ∀ l o k, (s ++ l).set (s.length + k) o = s ++ l.set k o := fun l o k => set_app s l k o
  simp [core, hid, hset]
  have e0 : s ++ [.cells (core q r p 1), .cells (empt 1), .cells (empt 1), .cells (empt 1), .cells (core q r p 1)] = put (anew s q r p 1) q r p [[]] [[]] [[]] := (anew_put hf).symm
  simp only [core] at e0
  rw [e0]
  refine aCalls_mono (by simpa using recv_wait (ch := 0) (t := 5) H rfl rfl (by simp) rfl rfl) ?_
  rintro _ _ _ ⟨rfl, rfl, hv⟩
  simp [wait]
  refine aCalls_mono (by simpa using send_meet (ch := 0) (room := 0) (t := 6) (x := 9) (f := 5) (ρ := []) H rfl (by simp) rfl) ?_
  rintro _ _ _ ⟨rfl, rfl, rfl⟩
  simp
  obtain ⟨J, hJ⟩ := put_beyond hf (n := 1) [[]] [[]] ([[5]].map (del 5))
  exact ⟨s, ⟨J, hJ⟩, rfl, by simp [LV.under], fun i o h => .inl h, rfl, hv⟩
end Go.Hb
