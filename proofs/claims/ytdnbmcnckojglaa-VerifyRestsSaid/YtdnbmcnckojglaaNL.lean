/-
  A layer for reasoning about the program's calls, and contracts of its functions (NL). CONDITIONS: none; each theorem bears its own.
-/
import Derived.Test.YtdnbmcnckojglaaNK
set_option linter.unusedVariables false
set_option linter.unusedSimpArgs false
namespace Go.Hb
open Go Go.Proofs Go.RowKit
set_option maxRecDepth 100000
set_option maxHeartbeats 800000
attribute [-simp] aC aL aOper aThen aInBlock aIf aPlan aAppend aLen aIndexAddr aSlice aCells aBounds lBr aq initT aev aAppendOwn aAppendNil aAppendNew aAppendRef LV.cells LV.cellsOk getElem?_pos getElem?_neg
theorem CloR.rel {c : Cor} {s B : List AObj} {v v' : List Nat} {x : LV} {s' : List AObj} (h : CloR c (s ++ B) v x s' v') :
    ∃ J d xO xC dO dC, s' = s ++ (B ++ J) ∧ J[d]? = some (.cells (rowCs c.threads)) ∧ RowR (s ++ (B ++ J)) 1 c.owners.length (rowCs c.owners) xO (s.length + (B.length + dO)) ∧ RowR (s ++ (B ++ J)) 1 c.counts.length (rowCs c.counts) xC (s.length + (B.length + dC)) ∧ dO ≠ d ∧ dC ≠ d ∧ v <+: v' ∧
      x = .agg [.int .i64 c.now, .ref 5 (s.length + (B.length + d)) 0 c.threads.length false, xO, xC, row c.bufs, row c.lockq, row c.waitq, row c.downq, row c.sendq, row c.recvq] := by
  obtain ⟨J, d, xO, xC, dO, dC, h1, h2, h3, h4, h5, h6, h7, h8⟩ := h
  refine ⟨J, d, xO, xC, dO, dC, by rw [← h1, List.append_assoc], h2, ?_, ?_, h5, h6, h7, ?_⟩
  · rw [List.append_assoc, List.length_append, Nat.add_assoc] at h3; exact h3
  · rw [List.append_assoc, List.length_append, Nat.add_assoc] at h4; exact h4
  · rw [List.length_append, Nat.add_assoc] at h8; exact h8
theorem CloR.rel3 {c : Cor} {s K : List AObj} {a b e : AObj} {v v' : List Nat} {x : LV} {s' : List AObj} (h : CloR c (s ++ (a :: b :: e :: K)) v x s' v') :
    ∃ J d xO xC dO dC, s' = s ++ (a :: b :: e :: (K ++ J)) ∧ J[d]? = some (.cells (rowCs c.threads)) ∧ RowR (s ++ (a :: b :: e :: (K ++ J))) 1 c.owners.length (rowCs c.owners) xO (s.length + (K.length + dO + 3)) ∧ RowR (s ++ (a :: b :: e :: (K ++ J))) 1 c.counts.length (rowCs c.counts) xC (s.length + (K.length + dC + 3)) ∧ dO ≠ d ∧ dC ≠ d ∧ v <+: v' ∧
      x = .agg [.int .i64 c.now, .ref 5 (s.length + (K.length + d + 3)) 0 c.threads.length false, xO, xC, row c.bufs, row c.lockq, row c.waitq, row c.downq, row c.sendq, row c.recvq] := by
  obtain ⟨J, d, xO, xC, dO, dC, h1, h2, h3, h4, h5, h6, h7, h8⟩ := h.rel
  have e1 : ∀ n, (a :: b :: e :: K).length + n = K.length + n + 3 := fun n => by simp; omega
  rw [e1] at h3 h4 h8
  exact ⟨J, d, xO, xC, dO, dC, h1, h2, h3, h4, h5, h6, h7, h8⟩
theorem lawRests_p {p : Prog} {l : List Int} {t on : Int} (h : OkProg p) (hl : OkRow I64 l) (ht : I64 t) (ho : I64 on) : PureC Try.prog 4 [.agg p.lv, row l, .int .i64 t, .int .i64 on] (.bool true) := by
  have hmk := make17_p h hl (e := 5) (by constructor <;> omega)
  rw [show around 5 1000 = 5 by decide] at hmk
  have hp := mayP_iff (good_may p)
  generalize good p = g at *
  have hinv := playC_inv hp (coreNew_inv hp) (l.take 80)
  generalize (playC g (coreNew g) (l.take 80)).1 = c at *
  have hsh := hinv.shC hp
  have hlv := lives_p
  have hb := hsh.b.threads
  have hn := hinv.nthr.1
  have hat := around_in (n := t) (m := (c.threads.length : Int)) (by omega)
  have har := around_p (n := t) (m := (c.threads.length : Int)) ht (by omega)
  generalize around t (c.threads.length : Int) = j at *
  obtain ⟨k, rfl⟩ : ∃ k : Nat, j = k := ⟨j.toNat, by omega⟩
  have hk : k < c.threads.length := by omega
  have h9 := around_in (n := on) (m := 9) (by omega)
  have ha9 := around_p (n := on) (m := 9) ho (by omega)
  generalize around on 9 = o at *
  have hft := fits_p hsh
  rw [fitsC_of hinv] at hft
  have hx := ix_in (l := c.threads) (i := (k : Int)) (by omega) (by omega)
  rw [Int.toNat_natCast] at hx
  have hne : c.threads ≠ [] := fun e => by rw [e] at hn; simp at hn
  have hthr : ∀ t ∈ c.threads, ThrB t := fun t ht => by
    obtain ⟨i, hi, rfl⟩ := List.getElem_of_mem ht
    have := hinv.thr i hi
    rw [nth_eq hi] at this
    exact thrI_b hp this
  refine .of fun s v => ?_
  simp only [Prog.lv, Cor.lv, List.cons_append, List.nil_append] at hmk ⊢
  refine aCalls_go Try.func4 rfl (by decide) Try.ntmps4 (by simp) false ?_
  have hres : Try.f4.results = #[.tmp 8] := rfl
  by_cases hs : 3 ≤ (nth c.threads k).state ∧ (nth c.threads k).state ≤ 7
  · have hs1 : ¬ (nth c.threads k).state < 3 := by omega
    have hs2 : ¬ 7 < (nth c.threads k).state := by omega
    repeat' (first | (with_reducible first | refine br_t ?_ | refine br_f ?_ | (first | refine br_dec ?_ ?_ | refine g_dec ?_ ?_ | refine g_ndec ?_ ?_ | refine br_not ?_ ?_ | refine br_split ?_ ?_ | refine g_not ?_ ?_ | refine g_split ?_ ?_ | refine px_dec ?_ ?_ | refine px_ndec ?_ ?_ | refine px_split ?_ ?_) <;> intro _) | (with_reducible refine aWh_draw (own := false) (id := 11) (.qs [0, 1, 2, 3] (.w 4 [1] (.qs [5, 6] (.w 7 [] .nil)))) mixed ?_ ?_ ?_; kernel_rfl; kernel_rfl) | (with_reducible refine aWh_draw (own := false) (id := 13) (.qs [0, 1, 2, 3, 4, 5, 6, 7, 8, 9, 10, 11, 12, 13, 14, 15, 16, 17, 18, 19, 20] (.w 21 [] (.qs [22, 23] .nil))) mixed ?_ ?_ ?_; kernel_rfl; kernel_rfl) | with_reducible refine And.intro ?_ ?_ | with_reducible refine callC hmk (fun v1 hv1 => ?_) | with_reducible refine callE har ?_ | simp -implicitDefEqProofs (maxSteps := 2000000) (disch := first | assumption | omega) [*, ])
    refine aCalls_mono (clone11_o hsh.b hthr hne) ?_
    intro x1 s1 v2 hc1
    obtain ⟨J, d, xO, xC, dO, dC, rfl, hJ, hO, hC, nO, nC, hv2, rfl⟩ := hc1.rel3
    simp only [List.nil_append, List.length_nil, Nat.zero_add] at hO hC ⊢
    clear hc1
    have hd := (List.getElem?_eq_some_iff.1 hJ).1
    have hJX : ∀ Y, (J ++ Y)[d]? = some (.cells (rowCs c.threads)) := fun Y => by rw [List.getElem?_append_left hd]; exact hJ
    have hJs : ∀ Y o, (J ++ Y).set d o = J.set d o ++ Y := fun Y o => by rw [List.set_append_left _ _ hd]
    have hJy : ∀ Y o, (J.set d o ++ Y)[d]? = some o := fun Y o => by rw [List.getElem?_append_left (by simpa using hd), List.getElem?_set_self hd]
    have hJz : ∀ Y o o', (J.set d o ++ Y).set d o' = J.set d o' ++ Y := fun Y o o' => by rw [List.set_append_left _ _ (by simpa using hd), List.set_set]
    have hJl : ∀ o X x, (J.set d o ++ x :: X)[J.length]? = some x := fun o X x => by rw [List.getElem?_append_right (by simp)]; simp
    have hJl2 : ∀ X x, (J ++ x :: X)[J.length]? = some x := fun X x => by rw [List.getElem?_append_right (by simp)]; simp
    have hdv : ∀ P X T Y x, DeepVs (s ++ (P :: X :: T :: (J.set d (.cells (rowCs (c.threads.set k x))) ++ Y))) 0 [.agg [row g.funcs, .int .i64 g.mutexes, row g.conds, row g.semas, row g.chans, row g.choices, .int .i64 g.threads], .agg [.int .i64 c.now, .ref 5 (s.length + (d + 3)) 0 c.threads.length false, xO, xC, row c.bufs, row c.lockq, row c.waitq, row c.downq, row c.sendq, row c.recvq]] [.agg [row g.funcs, .int .i64 g.mutexes, row g.conds, row g.semas, row g.chans, row g.choices, .int .i64 g.threads], .agg [.int .i64 c.now, row (c.threads.set k x), row c.owners, row c.counts, row c.bufs, row c.lockq, row c.waitq, row c.downq, row c.sendq, row c.recvq]] := by
      intro P X T Y x
      have hset : ∀ i, i ≠ d → i < J.length → (s ++ (P :: X :: T :: (J.set d (.cells (rowCs (c.threads.set k x))) ++ Y)))[s.length + (i + 3)]? = J[i]? := fun i hi hi2 => by
        rw [get_app]; show (J.set d _ ++ Y)[i]? = _
        rw [List.getElem?_append_left (by simpa using hi2), List.getElem?_set_ne (Ne.symm hi)]
      have href : (s ++ (P :: X :: T :: (J.set d (.cells (rowCs (c.threads.set k x))) ++ Y)))[s.length + (d + 3)]? = some (.cells (rowCs (c.threads.set k x))) := by
        rw [get_app]; show (J.set d _ ++ Y)[d]? = _
        exact hJy Y _
      have hrow := DeepV.ref_row (fl := false) (Nat.zero_le _) href (rowCs_ne (by decide) (by simpa using hne))
      rw [List.length_set] at hrow
      have hkp : ∀ {n i : Nat} {cs : List LV} {y : LV} {a b e : AObj}, i ≠ d → RowR (s ++ (a :: b :: e :: J)) 1 n cs y (s.length + (i + 3)) → RowR (s ++ (P :: X :: T :: (J.set d (.cells (rowCs (c.threads.set k x))) ++ Y))) 1 n cs y (s.length + (i + 3)) := fun hi h => h.keep fun h0 => by
        have hlt := h.lt h0
        simp at hlt
        rw [hset _ hi (by omega), get_app]; rfl
      exact .cons _ _ _ _ (.keep _ (by simp)) (.cons _ _ _ _ (.agg _ _ (.cons _ _ _ _ (.keep _ rfl) (.cons _ _ _ _ hrow (.cons _ _ _ _ ((hkp nO hO).deep0 (Nat.zero_le _)) (.cons _ _ _ _ ((hkp nC hC).deep0 (Nat.zero_le _)) (keepAll _ (by simp))))))) .nil)
    have h5 : (rowCs c.threads).length = c.threads.length * 5 := by rw [rowCs_len]; rfl
    have hk1 : k * 5 + 1 ≤ (rowCs c.threads).length := by omega
    have hk2 : k * 5 + 1 + 1 ≤ (rowCs c.threads).length := by omega
    have hk3 : k * 5 + 2 ≤ (rowCs c.threads).length := by omega
    clear h5
    have hfi : ∀ P X T Y, Ret Try.prog 13 [.agg [row g.funcs, .int .i64 g.mutexes, row g.conds, row g.semas, row g.chans, row g.choices, .int .i64 g.threads], .agg [.int .i64 c.now, .ref 5 (s.length + (d + 3)) 0 c.threads.length false, xO, xC, row c.bufs, row c.lockq, row c.waitq, row c.downq, row c.sendq, row c.recvq]] (s ++ (P :: X :: T :: (J.set d (.cells (((rowCs c.threads).set (k * 5) (.int .i64 0)).set (k * 5 + 1) (.int .i64 0))) ++ Y))) (.tup [.int .i64 4, .int .i64 k]) := by
      intro P X T Y
      have hfp := first_p (putT_sh hsh k { nth c.threads k with state := 0, on := 0 })
      rw [rests_ready hinv hk hs.1 hs.2 rfl rfl] at hfp
      rw [rowCs_rest hk]
      exact Ret.lend hfp rfl (hdv P X T Y _)
    have hki : (k : Int) < c.threads.length := by omega
    repeat' (first | (with_reducible first | refine br_t ?_ | refine br_f ?_ | (first | refine br_dec ?_ ?_ | refine g_dec ?_ ?_ | refine g_ndec ?_ ?_ | refine br_not ?_ ?_ | refine br_split ?_ ?_ | refine g_not ?_ ?_ | refine g_split ?_ ?_ | refine px_dec ?_ ?_ | refine px_ndec ?_ ?_ | refine px_split ?_ ?_) <;> intro _) | (with_reducible refine aWh_draw (own := false) (id := 11) (.qs [0, 1, 2, 3] (.w 4 [1] (.qs [5, 6] (.w 7 [] .nil)))) mixed ?_ ?_ ?_; kernel_rfl; kernel_rfl) | (with_reducible refine aWh_draw (own := false) (id := 13) (.qs [0, 1, 2, 3, 4, 5, 6, 7, 8, 9, 10, 11, 12, 13, 14, 15, 16, 17, 18, 19, 20] (.w 21 [] (.qs [22, 23] .nil))) mixed ?_ ?_ ?_; kernel_rfl; kernel_rfl) | with_reducible refine And.intro ?_ ?_ | with_reducible refine callR (hfi _ _ _ _) (fun v3 hv3 => ?_) | simp -implicitDefEqProofs (maxSteps := 2000000) (disch := first | assumption | omega) [*, ])
    clear hfi hdv hJ hJX hJs hJy hJz hJl hJl2 hO hC nO nC hd
    generalize (J.set d (AObj.cells (((rowCs c.threads).set (k * 5) (LV.int .i64 0)).set (k * 5 + 1) (LV.int .i64 0))) ++ [AObj.cells [.int .i64 c.now, .ref 5 (s.length + (d + 3)) 0 c.threads.length false, xO, xC, row c.bufs, row c.lockq, row c.waitq, row c.downq, row c.sendq, row c.recvq]]) = K
    refine aCalls_mono (clone11_o hsh.b hthr hne) ?_
    intro x2 s2 v4 hc2
    obtain ⟨J2, d2, yO, yC, dO2, dC2, rfl, hJ, hO, hC, nO, nC, hv4, rfl⟩ := hc2.rel3
    clear hc2
    have hd := (List.getElem?_eq_some_iff.1 hJ).1
    have hJX : ∀ Y, (K ++ (J2 ++ Y))[K.length + d2]? = some (.cells (rowCs c.threads)) := fun Y => by rw [get_app, List.getElem?_append_left hd]; exact hJ
    have hJs : ∀ Y o, (K ++ (J2 ++ Y)).set (K.length + d2) o = K ++ (J2.set d2 o ++ Y) := fun Y o => by rw [set_app, List.set_append_left _ _ hd]
    have hJy : ∀ Y o, (K ++ (J2.set d2 o ++ Y))[K.length + d2]? = some o := fun Y o => by rw [get_app, List.getElem?_append_left (by simpa using hd), List.getElem?_set_self hd]
    have hJl : ∀ o X x, (K ++ (J2.set d2 o ++ x :: X))[K.length + J2.length]? = some x := fun o X x => by rw [get_app, List.getElem?_append_right (by simp)]; simp
    have hJl2 : ∀ X x, (K ++ (J2 ++ x :: X))[K.length + J2.length]? = some x := fun X x => by rw [get_app, List.getElem?_append_right (by simp)]; simp
    have hg1 : ((rowCs c.threads).set (k * 5 + 1) (.int .i64 o))[k * 5 + 1]? = some (.int .i64 o) := List.getElem?_set_self (by omega)
    obtain ⟨b, hb2⟩ : ∃ b, decide (o = (nth c.threads k).on) = b := ⟨_, rfl⟩
    have hfo : fitsC g (putT c k { nth c.threads k with on := o }) = b := by
      rw [← hb2]
      by_cases e : o = (nth c.threads k).on
      · rw [putT_self hk (by rw [e]), fitsC_of hinv]; simp [e]
      · rw [rests_on hinv hk hs.1 hs.2 (x := { nth c.threads k with on := o }) rfl h9.1 e]; simp [e]
    have hf2 : ∀ P X T Y, Ret Try.prog 8 [.agg [row g.funcs, .int .i64 g.mutexes, row g.conds, row g.semas, row g.chans, row g.choices, .int .i64 g.threads], .agg [.int .i64 c.now, .ref 5 (s.length + (K.length + d2 + 3)) 0 c.threads.length false, yO, yC, row c.bufs, row c.lockq, row c.waitq, row c.downq, row c.sendq, row c.recvq]] (s ++ (P :: X :: T :: (K ++ (J2.set d2 (.cells ((rowCs c.threads).set (k * 5 + 1) (.int .i64 o))) ++ Y)))) (.bool b) := by
      intro P X T Y
      have hfp := fits_p (putT_sh hsh k { nth c.threads k with on := o })
      rw [hfo] at hfp
      rw [rowCs_on o _ hk]
      refine Ret.lend hfp rfl ?_
      have hset : ∀ i, i ≠ d2 → i < J2.length → ∀ z, (s ++ (P :: X :: T :: (K ++ (J2.set d2 z ++ Y))))[s.length + (K.length + i + 3)]? = J2[i]? := fun i hi hi2 z => by
        rw [get_app]; show (K ++ (J2.set d2 _ ++ Y))[K.length + i]? = _
        rw [get_app, List.getElem?_append_left (by simpa using hi2), List.getElem?_set_ne (Ne.symm hi)]
      have href : ∀ z, (s ++ (P :: X :: T :: (K ++ (J2.set d2 z ++ Y))))[s.length + (K.length + d2 + 3)]? = some z := fun z => by
        rw [get_app]; show (K ++ (J2.set d2 _ ++ Y))[K.length + d2]? = _
        exact hJy Y _
      have hrow := DeepV.ref_row (fl := false) (Nat.zero_le _) (href (.cells (rowCs (c.threads.set k { nth c.threads k with on := o })))) (rowCs_ne (by decide) (by simpa using hne))
      rw [List.length_set] at hrow
      have hkp : ∀ {n i : Nat} {cs : List LV} {y : LV} {a b e : AObj} {z : AObj}, i ≠ d2 → RowR (s ++ (a :: b :: e :: (K ++ J2))) 1 n cs y (s.length + (K.length + i + 3)) → RowR (s ++ (P :: X :: T :: (K ++ (J2.set d2 z ++ Y)))) 1 n cs y (s.length + (K.length + i + 3)) := fun hi h => h.keep fun h0 => by
        have hlt := h.lt h0
        simp at hlt
        rw [hset _ hi (by omega), get_app]
        show _ = (K ++ J2)[K.length + _]?
        rw [get_app]
      exact .cons _ _ _ _ (.keep _ (by simp)) (.cons _ _ _ _ (.agg _ _ (.cons _ _ _ _ (.keep _ rfl) (.cons _ _ _ _ hrow (.cons _ _ _ _ ((hkp nO hO).deep0 (Nat.zero_le _)) (.cons _ _ _ _ ((hkp nC hC).deep0 (Nat.zero_le _)) (keepAll _ (by simp))))))) .nil)
    clear hfo
    repeat' (first | (with_reducible first | refine br_t ?_ | refine br_f ?_ | (first | refine br_dec ?_ ?_ | refine g_dec ?_ ?_ | refine g_ndec ?_ ?_ | refine br_not ?_ ?_ | refine br_split ?_ ?_ | refine g_not ?_ ?_ | refine g_split ?_ ?_ | refine px_dec ?_ ?_ | refine px_ndec ?_ ?_ | refine px_split ?_ ?_) <;> intro _) | (with_reducible refine aWh_draw (own := false) (id := 11) (.qs [0, 1, 2, 3] (.w 4 [1] (.qs [5, 6] (.w 7 [] .nil)))) mixed ?_ ?_ ?_; kernel_rfl; kernel_rfl) | (with_reducible refine aWh_draw (own := false) (id := 13) (.qs [0, 1, 2, 3, 4, 5, 6, 7, 8, 9, 10, 11, 12, 13, 14, 15, 16, 17, 18, 19, 20] (.w 21 [] (.qs [22, 23] .nil))) mixed ?_ ?_ ?_; kernel_rfl; kernel_rfl) | with_reducible refine And.intro ?_ ?_ | with_reducible refine callE ha9 ?_ | with_reducible refine callR (hf2 _ _ _ _) (fun v5 hv5 => ?_) | with_reducible refine callC hlv (fun v6 hv6 => ?_) | simp -implicitDefEqProofs (maxSteps := 2000000) (disch := first | assumption | omega) [*, ])
    all_goals exact Ends.eqat rfl (by simp) (hv1.trans (hv2.trans (hv3.trans (hv4.trans (hv5.trans hv6)))))
  · by_cases hs1 : (nth c.threads k).state < 3
    · repeat' (first | (with_reducible first | refine br_t ?_ | refine br_f ?_ | (first | refine br_dec ?_ ?_ | refine g_dec ?_ ?_ | refine g_ndec ?_ ?_ | refine br_not ?_ ?_ | refine br_split ?_ ?_ | refine g_not ?_ ?_ | refine g_split ?_ ?_ | refine px_dec ?_ ?_ | refine px_ndec ?_ ?_ | refine px_split ?_ ?_) <;> intro _) | (with_reducible refine aWh_draw (own := false) (id := 11) (.qs [0, 1, 2, 3] (.w 4 [1] (.qs [5, 6] (.w 7 [] .nil)))) mixed ?_ ?_ ?_; kernel_rfl; kernel_rfl) | (with_reducible refine aWh_draw (own := false) (id := 13) (.qs [0, 1, 2, 3, 4, 5, 6, 7, 8, 9, 10, 11, 12, 13, 14, 15, 16, 17, 18, 19, 20] (.w 21 [] (.qs [22, 23] .nil))) mixed ?_ ?_ ?_; kernel_rfl; kernel_rfl) | with_reducible refine And.intro ?_ ?_ | with_reducible refine callC hmk (fun v1 hv1 => ?_) | with_reducible refine callE har ?_ | with_reducible refine callC hft (fun v2 hv2 => ?_) | with_reducible refine callC hlv (fun v3 hv3 => ?_) | simp -implicitDefEqProofs (maxSteps := 2000000) (disch := first | assumption | omega) [*, ])
      all_goals exact Ends.eqat rfl (by simp) (hv1.trans (hv2.trans hv3))
    · have hs2 : 7 < (nth c.threads k).state := by omega
      repeat' (first | (with_reducible first | refine br_t ?_ | refine br_f ?_ | (first | refine br_dec ?_ ?_ | refine g_dec ?_ ?_ | refine g_ndec ?_ ?_ | refine br_not ?_ ?_ | refine br_split ?_ ?_ | refine g_not ?_ ?_ | refine g_split ?_ ?_ | refine px_dec ?_ ?_ | refine px_ndec ?_ ?_ | refine px_split ?_ ?_) <;> intro _) | (with_reducible refine aWh_draw (own := false) (id := 11) (.qs [0, 1, 2, 3] (.w 4 [1] (.qs [5, 6] (.w 7 [] .nil)))) mixed ?_ ?_ ?_; kernel_rfl; kernel_rfl) | (with_reducible refine aWh_draw (own := false) (id := 13) (.qs [0, 1, 2, 3, 4, 5, 6, 7, 8, 9, 10, 11, 12, 13, 14, 15, 16, 17, 18, 19, 20] (.w 21 [] (.qs [22, 23] .nil))) mixed ?_ ?_ ?_; kernel_rfl; kernel_rfl) | with_reducible refine And.intro ?_ ?_ | with_reducible refine callC hmk (fun v1 hv1 => ?_) | with_reducible refine callE har ?_ | with_reducible refine callC hft (fun v2 hv2 => ?_) | with_reducible refine callC hlv (fun v3 hv3 => ?_) | simp -implicitDefEqProofs (maxSteps := 2000000) (disch := first | assumption | omega) [*, ])
      all_goals exact Ends.eqat rfl (by simp) (hv1.trans (hv2.trans hv3))
end Go.Hb
