/-
  A layer for reasoning about the program's calls, and contracts of its functions (ZS). CONDITIONS: none; each theorem bears its own.
-/
import Derived.Test.YtcpmmldgimhppaaGreatWO
import Derived.Test.YtcpmmldgimhppaaGreatRr
import Derived.Test.YtcpmmldgimhppaaGreatS
import Derived.Test.YtcpmmldgimhppaaGreatL9
set_option linter.unusedVariables false
set_option linter.unusedSimpArgs false
namespace Go.Hb
open Go Go.Proofs Go.RowKit
set_option maxRecDepth 100000
set_option maxHeartbeats 800000
attribute [-simp] aC aL aOper aThen aInBlock aIf aPlan aAppend aLen aIndexAddr aSlice aCells aBounds lBr aq initT aev aAppendOwn aAppendNil aAppendNew aAppendRef LV.cells LV.cellsOk getElem?_pos getElem?_neg

theorem few_p {b : List UInt8} (hb : b.length ≤ 9223372036854775807) : PureE Tryz.prog 5 [row b, .int .i64 300] (row (b.take 300)) := by
  refine .of fun s v => ?_
  by_cases h : 300 < b.length
  · have h' : (300 : Int) < b.length := by omega
    refine aCalls_go Tryz.func5 rfl (by decide) Tryz.ntmps5 (by simp) false ?_
    have hres : Tryz.f5.results = #[.tmp 4] := rfl
    repeat' (first | with_reducible refine br_t ?_ | with_reducible refine br_f ?_ | with_reducible refine br_dec (fun _ => ?_) (fun _ => ?_) | with_reducible refine g_dec (fun _ => ?_) (fun _ => ?_) | with_reducible refine g_ndec (fun _ => ?_) (fun _ => ?_) | with_reducible refine br_not (fun _ => ?_) (fun _ => ?_) | with_reducible refine br_split (fun _ => ?_) (fun _ => ?_) | with_reducible refine g_not (fun _ => ?_) (fun _ => ?_) | with_reducible refine g_split (fun _ => ?_) (fun _ => ?_) | with_reducible refine px_dec (fun _ => ?_) (fun _ => ?_) | with_reducible refine px_ndec (fun _ => ?_) (fun _ => ?_) | with_reducible refine px_split (fun _ => ?_) (fun _ => ?_) | simp -implicitDefEqProofs (maxSteps := 2000000) (disch := first | assumption | omega) [*, ])
    all_goals exact EndsE.eq rfl (by simp)
  · have h' : ¬ ((300 : Int) < b.length) := by omega
    have e : b.take 300 = b := List.take_of_length_le (by omega)
    rw [e]
    refine aCalls_go Tryz.func5 rfl (by decide) Tryz.ntmps5 (by simp) false ?_
    have hres : Tryz.f5.results = #[.tmp 4] := rfl
    repeat' (first | with_reducible refine br_t ?_ | with_reducible refine br_f ?_ | with_reducible refine br_dec (fun _ => ?_) (fun _ => ?_) | with_reducible refine g_dec (fun _ => ?_) (fun _ => ?_) | with_reducible refine g_ndec (fun _ => ?_) (fun _ => ?_) | with_reducible refine br_not (fun _ => ?_) (fun _ => ?_) | with_reducible refine br_split (fun _ => ?_) (fun _ => ?_) | with_reducible refine g_not (fun _ => ?_) (fun _ => ?_) | with_reducible refine g_split (fun _ => ?_) (fun _ => ?_) | with_reducible refine px_dec (fun _ => ?_) (fun _ => ?_) | with_reducible refine px_ndec (fun _ => ?_) (fun _ => ?_) | with_reducible refine px_split (fun _ => ?_) (fun _ => ?_) | simp -implicitDefEqProofs (maxSteps := 2000000) (disch := first | assumption | omega) [*, ])
    all_goals exact EndsE.eq rfl (by simp)
theorem readP_ok (b : List UInt8) : OkProg (readP b).1 := by
  by_cases h : (readP b).2 = 0
  · have := (read_inv (b := b) (p := (readP b).1) (by rw [← h])).1
    exact ok_of_may this
  · rw [read_err h]
    refine ⟨⟨fun f hf => absurd hf (by simp [noProg]), by simp [noProg]⟩, ⟨by simp [noProg], by simp [noProg]⟩, ⟨fun f hf => absurd hf (by simp [noProg]), by simp [noProg]⟩, ⟨fun f hf => absurd hf (by simp [noProg]), by simp [noProg]⟩, ⟨fun f hf => absurd hf (by simp [noProg]), by simp [noProg]⟩, ⟨fun f hf => absurd hf (by simp [noProg]), by simp [noProg]⟩, ⟨by simp [noProg], by simp [noProg]⟩⟩
theorem writeP_ge (p : Prog) : 3 ≤ (writeP p).length := by
  have h1 := shortB_ge p.funcs.length
  have h2 := shortB_ge p.mutexes
  have h3 := shortB_ge p.threads
  simp only [writeP, List.length_append]; omega
theorem row8_at {l : List UInt8} {i : Nat} (h : i < l.length) : (rowCs l)[i]? = some (.int .u8 ((nth l i).toNat : Int)) := by
  have := rowCs_at (l := l) h
  simp only [sz_u8, Nat.mul_one, enc_u8] at this
  have h2 : ((rowCs l).drop i)[0]? = some (.int .u8 ((nth l i).toNat : Int)) := by
    have : (((rowCs l).drop i).take 1)[0]? = some (.int .u8 ((nth l i).toNat : Int)) := by rw [this]; rfl
    simpa using this
  simpa using h2
theorem row8_set : ∀ (l : List UInt8) (j : Nat) (c : UInt8), j < l.length → (rowCs l).set j (.int .u8 (c.toNat : Int)) = rowCs (l.set j c)
  | i :: l, 0, c, _ => by simp [rowCs_cons]
  | i :: l, j + 1, c, h => by
    have ih := row8_set l j c (by simpa using h)
    rw [List.set_cons_succ, rowCs_cons, rowCs_cons, ← ih]
    simp
set_option maxHeartbeats 8000000 in
theorem lawReads_p {b : List UInt8} {p : Prog} {at_ cut : Int} {x : UInt8} (hb : b.length ≤ 140737488351232) (h : OkProg p) (ha : I64 at_) (hcu : I64 cut) :
    PureC Tryz.prog 3 [row b, .agg p.lv, .int .i64 at_, .int .u8 (x.toNat : Int), .int .i64 cut] (.bool true) := by
  have hg := good_ok h
  have hmay := good_may p
  obtain ⟨g, hge⟩ : ∃ g, good p = g := ⟨_, rfl⟩
  rw [hge] at hg hmay
  clear hge
  obtain ⟨fs, mu, co, se, ch, cho, th⟩ := g
  have hbl := writeP_le hmay
  have hbg := writeP_ge ⟨fs, mu, co, se, ch, cho, th⟩
  have hw := fun s v => rwrite_o (s := s) (vz := v) hmay
  have hfew := few_p (b := b) (by omega)
  have hfl : (b.take 300).length ≤ 20000 := by rw [List.length_take]; omega
  generalize b.take 300 = b0 at *
  generalize writeP ⟨fs, mu, co, se, ch, cho, th⟩ = bs at *
  have har := around_p ha (m := (bs.length : Int)) (by omega)
  have hai := around_in (n := at_) (m := (bs.length : Int)) (by omega)
  have hcr := around_p hcu (m := 3) (by omega)
  have hci := around_in (n := cut) (m := 3) (by omega)
  obtain ⟨k, hk⟩ : ∃ k : Nat, around at_ bs.length = k := ⟨(around at_ bs.length).toNat, by omega⟩
  obtain ⟨m, hm⟩ : ∃ m : Nat, around cut 3 = m := ⟨(around cut 3).toNat, by omega⟩
  rw [hk] at har hai
  rw [hm] at hcr hci
  obtain ⟨pf, pm, pc, ps, ph, po, pt⟩ := p
  simp only [Prog.lv] at hg hw ⊢
  clear hk hm hmay h
  refine .of fun s v => ?_
  refine aCalls_go Tryz.func3 rfl (by decide) Tryz.ntmps3 (by simp) false ?_
  have hres : Tryz.f3.results = #[.tmp 10] := rfl
  repeat' (first | with_reducible refine br_t ?_ | with_reducible refine br_f ?_ | with_reducible refine br_dec (fun _ => ?_) (fun _ => ?_) | with_reducible refine g_dec (fun _ => ?_) (fun _ => ?_) | with_reducible refine g_ndec (fun _ => ?_) (fun _ => ?_) | with_reducible refine br_not (fun _ => ?_) (fun _ => ?_) | with_reducible refine br_split (fun _ => ?_) (fun _ => ?_) | with_reducible refine g_not (fun _ => ?_) (fun _ => ?_) | with_reducible refine g_split (fun _ => ?_) (fun _ => ?_) | with_reducible refine px_dec (fun _ => ?_) (fun _ => ?_) | with_reducible refine px_ndec (fun _ => ?_) (fun _ => ?_) | with_reducible refine px_split (fun _ => ?_) (fun _ => ?_) | with_reducible refine callE hfew ?_ | with_reducible refine callC hg (fun v1 hv1 => ?_) | with_reducible refine aCalls_mono (hw _ _) ?_ | simp -implicitDefEqProofs (maxSteps := 2000000) (disch := first | assumption | omega) [*, ])
  rintro _ _ v2 ⟨D, d, rfl, rfl, ⟨hD, hbn⟩, hv2⟩
  have e6 : (s ++ [AObj.cells [row pf, .int .i64 pm, row pc, row ps, row ph, row po, .int .i64 pt]]).length + d = s.length + (d + 1) := by simp; omega
  rw [e6]
  clear e6
  have hkb : k < bs.length := by omega
  have hrow := row8_at hkb
  have hsl : aSlice Tryz.prog 22 (.ref 1 (s.length + (d + 1)) 0 bs.length false) none (some (.int .i64 ((bs.length : Int) - m))) none = some (.ref 1 (s.length + (d + 1)) 0 (bs.length - m) false) := by
    rw [aSlice_ref_h (by omega) (by omega)]
    have e : elemSz Tryz.prog 22 = some 1 := by kernel_rfl
    rw [if_pos e]
    congr 2
    omega
  obtain ⟨c, hc⟩ : ∃ c : UInt8, nth bs k = c := ⟨_, rfl⟩
  rw [hc] at hrow
  have hq1 : (0 : Int) ≤ k := by omega
  have hq2 : (k : Int) < bs.length := by omega
  have hq3 : k + 1 ≤ bs.length := by omega
  have hrl := rowCs_len bs
  simp only [sz_u8, Nat.mul_one] at hrl
  clear hc
  have hxor : IntKind.u8.wrap ((c.toNat % 2 ^ IntKind.u8.bits ^^^ x.toNat % 2 ^ IntKind.u8.bits : Nat) : Int) = ((c ^^^ x).toNat : Int) := by
    have e1 : (2 : Nat) ^ IntKind.u8.bits = 256 := by decide
    have h1 := c.toNat_lt
    have h2 := x.toNat_lt
    have h3 := (c ^^^ x).toNat_lt
    rw [e1, Nat.mod_eq_of_lt (by omega), Nat.mod_eq_of_lt (by omega), u8_wrap, ← UInt8.toNat_xor, Nat.mod_eq_of_lt (by omega)]
  have hset := row8_set bs k (c ^^^ x) hkb
  generalize c ^^^ x = c' at *
  have hbl' : (bs.set k c').length = bs.length := List.length_set
  have hbn' : bs.set k c' ≠ [] := by intro e; have := congrArg List.length e; rw [hbl'] at this; simp at this; exact hbn this
  generalize hbs' : bs.set k c' = bs' at *
  clear hbs'
  repeat' (first | with_reducible refine br_t ?_ | with_reducible refine br_f ?_ | with_reducible refine br_dec (fun _ => ?_) (fun _ => ?_) | with_reducible refine g_dec (fun _ => ?_) (fun _ => ?_) | with_reducible refine g_ndec (fun _ => ?_) (fun _ => ?_) | with_reducible refine br_not (fun _ => ?_) (fun _ => ?_) | with_reducible refine br_split (fun _ => ?_) (fun _ => ?_) | with_reducible refine g_not (fun _ => ?_) (fun _ => ?_) | with_reducible refine g_split (fun _ => ?_) (fun _ => ?_) | with_reducible refine px_dec (fun _ => ?_) (fun _ => ?_) | with_reducible refine px_ndec (fun _ => ?_) (fun _ => ?_) | with_reducible refine px_split (fun _ => ?_) (fun _ => ?_) | with_reducible refine callE har ?_ | with_reducible refine callE hcr ?_ | simp -implicitDefEqProofs (maxSteps := 2000000) (disch := first | assumption | omega) [*, ])
  have hdl := (List.getElem?_eq_some_iff.1 hD).1
  have hfr : Frz (s.length + (d + 1)) (rowCs bs') (.ref 1 (s.length + (d + 1)) 0 (bs.length - m) false) (row (bs'.take (bs.length - m))) := by
    have h1 := Frz.ref (id := s.length + (d + 1)) (cs := rowCs bs') (sz := 1) (off := 0) (len := bs.length - m) (fl := false) (by rw [rowCs_len]; simp; omega)
    have e : row (bs'.take (bs.length - m)) = .imm 1 (bs.length - m) (((rowCs bs').drop 0).take ((bs.length - m) * 1)) .no := by
      have e1 := rowCs_take bs' (bs.length - m)
      simp only [sz_u8] at e1
      rw [List.drop_zero, e1]
      unfold row
      rw [List.length_take, hbl', Nat.min_eq_left (by omega)]; rfl
    rw [e]; exact h1
  refine aWs_frz1 (s.length + (d + 1)) (rowCs bs') 13 (.imm 1 2 [row b0, row (bs'.take (bs.length - m))] .no) (by simp [get_app, hdl]) (rowCs_ne (by simp) hbn') ?_ (by rw [set_app, List.set_cons_succ]) ?_
  · simp only [upd_apply]
    simp
    exact Frz.imm ⟨Frz.refl _ _ _, hfr, trivial⟩
  have hl1 : (bs'.take (bs.length - m)).length ≤ 20000 := by rw [List.length_take]; omega
  generalize (D.set d (AObj.cells (rowCs bs'))).set d (AObj.cells []) = D2
  clear hfr hsl hxor hset hrow hD hw hg hcr har hfew
  generalize bs'.take (bs.length - m) = l1 at *
  refine aW_for (β := List AObj × List Nat) false 2 (fun _ p => v <+: p.2) (fun i _ => [(14, .int .i64 i), (49, .any), (50, .any), (54, .any), (55, .any), (56, .any), (57, .any), (58, .any), (53, .any), (59, .any), (60, .any), (15, .any), (16, .any), (62, .any), (63, .any), (64, .any), (65, .any), (66, .any), (61, .any), (67, .any), (68, .any), (17, .any), (18, .any), (69, .any), (70, .any), (71, .any), (72, .any), (73, .any), (74, .any), (75, .any), (76, .any), (77, .any), (10, .any), (79, .any), (80, .any), (78, .any), (81, .any), (82, .any), (19, .any), (20, .any), (83, .any), (84, .any), (85, .any), (86, .any), (87, .any), (88, .any), (89, .any), (90, .any), (91, .any), (92, .any), (93, .any), (94, .any), (95, .any), (96, .any), (97, .any), (51, .any), (52, .any)]) (fun _ p => s ++ (AObj.cells [row pf, .int .i64 pm, row pc, row ps, row ph, row po, .int .i64 pt] :: p.1)) (fun _ p => p.2) ?_ ?_
  · exact ⟨(D2, v2), hv1.trans hv2, by (refine Fits.of ?_ (Off.refl _ _); simp [upd_apply, upds_cons]), rfl, rfl⟩
  have hno : PureC Tryz.prog 12 [.agg noProg.lv] (.tup [.nils, .int .i64 1]) := by
    have := may_ok (readP_ok [])
    have e : (readP []).1 = noProg := by decide
    rw [e, noProg_no] at this
    exact cwrite_no this
  rintro i ⟨J, v3⟩ hi hv3
  simp only at hv3
  have hi3 : i = 0 ∨ i = 1 ∨ i = 2 := by omega
  have key : ∀ l : List UInt8, l.length ≤ 20000 → ∃ q e, PureC Tryz.prog 9 [row l] (.tup [.agg (Prog.lv q), .int .i64 e]) ∧ PureC Tryz.prog 10 [row l] (.tup [.agg (Prog.lv q), .int .i64 e]) ∧ PureE Tryz.prog 11 [.agg (Prog.lv q), .agg (Prog.lv q)] (.bool true) ∧
      ((e = 0 ∧ PureC Tryz.prog 12 [.agg (Prog.lv q)] (.tup [row l, .int .i64 0]) ∧ PureE Tryz.prog 13 [row l, row l] (.bool true)) ∨ (e ≠ 0 ∧ PureC Tryz.prog 12 [.agg (Prog.lv q)] (.tup [.nils, .int .i64 1]))) := fun l hl => by
    have h1 := cread_p (b := l) (by omega)
    have h2 := rread_p (b := l) (by omega)
    have h3 := readP_ok l
    refine ⟨(readP l).1, (readP l).2, h1, h2, ?_, ?_⟩
    · have := rsame_p (fs' := (readP l).1.funcs) (mu' := (readP l).1.mutexes) (th' := (readP l).1.threads) (co' := (readP l).1.conds) (se' := (readP l).1.semas) (ch' := (readP l).1.chans) (cho' := (readP l).1.choices) h3
      simp only [decide_true] at this
      exact this
    · by_cases he : (readP l).2 = 0
      · left
        obtain ⟨k1, k2⟩ := read_inv (b := l) (p := (readP l).1) (by rw [← he])
        have k3 := may_ok h3
        rw [k1] at k3
        have k4 := cwrite_p k3 k1
        have k5 := same1_p (a := l) (b := l) (by omega)
        simp only [decide_true] at k5
        exact ⟨he, by have e : writeP ⟨(readP l).1.funcs, (readP l).1.mutexes, (readP l).1.conds, (readP l).1.semas, (readP l).1.chans, (readP l).1.choices, (readP l).1.threads⟩ = l := k2
                      rw [e] at k4; exact k4, k5⟩
      · right
        rw [read_err he]
        exact ⟨he, hno⟩
  clear hno
  rcases hi3 with rfl | rfl | rfl
  · obtain ⟨⟨qf, qm, qc, qs, qh, qo, qt⟩, e, h1, h2, h3, h4⟩ := key b0 hfl
    simp only [Prog.lv] at h1 h2 h3 h4
    clear key
    rcases h4 with ⟨rfl, h4, h5⟩ | ⟨he, h4⟩
    · repeat' (first | with_reducible refine br_t ?_ | with_reducible refine br_f ?_ | with_reducible refine br_dec (fun _ => ?_) (fun _ => ?_) | with_reducible refine g_dec (fun _ => ?_) (fun _ => ?_) | with_reducible refine g_ndec (fun _ => ?_) (fun _ => ?_) | with_reducible refine br_not (fun _ => ?_) (fun _ => ?_) | with_reducible refine br_split (fun _ => ?_) (fun _ => ?_) | with_reducible refine g_not (fun _ => ?_) (fun _ => ?_) | with_reducible refine g_split (fun _ => ?_) (fun _ => ?_) | with_reducible refine px_dec (fun _ => ?_) (fun _ => ?_) | with_reducible refine px_ndec (fun _ => ?_) (fun _ => ?_) | with_reducible refine px_split (fun _ => ?_) (fun _ => ?_) | with_reducible refine callC h1 (fun v4 hv4 => ?_) | with_reducible refine callC h2 (fun v5 hv5 => ?_) | with_reducible refine callE h3 ?_ | with_reducible refine callC h4 (fun v6 hv6 => ?_) | with_reducible refine callE h5 ?_ | simp -implicitDefEqProofs (maxSteps := 2000000) (disch := first | assumption | omega) [*, ])
      exact ⟨by omega, (_, _), ((hv3.trans hv4).trans hv5).trans hv6, by (refine Fits.of ?_ ?_; rotate_left; (repeat (first | with_reducible exact Off.refl _ _ | refine Off.upd rfl ?_ | refine Off.updO rfl ?_ | refine Off.upds rfl ?_)); simp [upd_apply, upds_cons]), rfl, rfl⟩
    · repeat' (first | with_reducible refine br_t ?_ | with_reducible refine br_f ?_ | with_reducible refine br_dec (fun _ => ?_) (fun _ => ?_) | with_reducible refine g_dec (fun _ => ?_) (fun _ => ?_) | with_reducible refine g_ndec (fun _ => ?_) (fun _ => ?_) | with_reducible refine br_not (fun _ => ?_) (fun _ => ?_) | with_reducible refine br_split (fun _ => ?_) (fun _ => ?_) | with_reducible refine g_not (fun _ => ?_) (fun _ => ?_) | with_reducible refine g_split (fun _ => ?_) (fun _ => ?_) | with_reducible refine px_dec (fun _ => ?_) (fun _ => ?_) | with_reducible refine px_ndec (fun _ => ?_) (fun _ => ?_) | with_reducible refine px_split (fun _ => ?_) (fun _ => ?_) | with_reducible refine callC h1 (fun v4 hv4 => ?_) | with_reducible refine callC h2 (fun v5 hv5 => ?_) | with_reducible refine callE h3 ?_ | with_reducible refine callC h4 (fun v6 hv6 => ?_) | simp -implicitDefEqProofs (maxSteps := 2000000) (disch := first | assumption | omega) [*, ])
      exact ⟨by omega, (_, _), ((hv3.trans hv4).trans hv5).trans hv6, by (refine Fits.of ?_ ?_; rotate_left; (repeat (first | with_reducible exact Off.refl _ _ | refine Off.upd rfl ?_ | refine Off.updO rfl ?_ | refine Off.upds rfl ?_)); simp [upd_apply, upds_cons]), rfl, rfl⟩
  · obtain ⟨⟨qf, qm, qc, qs, qh, qo, qt⟩, e, h1, h2, h3, h4⟩ := key l1 hl1
    simp only [Prog.lv] at h1 h2 h3 h4
    clear key
    rcases h4 with ⟨rfl, h4, h5⟩ | ⟨he, h4⟩
    · repeat' (first | with_reducible refine br_t ?_ | with_reducible refine br_f ?_ | with_reducible refine br_dec (fun _ => ?_) (fun _ => ?_) | with_reducible refine g_dec (fun _ => ?_) (fun _ => ?_) | with_reducible refine g_ndec (fun _ => ?_) (fun _ => ?_) | with_reducible refine br_not (fun _ => ?_) (fun _ => ?_) | with_reducible refine br_split (fun _ => ?_) (fun _ => ?_) | with_reducible refine g_not (fun _ => ?_) (fun _ => ?_) | with_reducible refine g_split (fun _ => ?_) (fun _ => ?_) | with_reducible refine px_dec (fun _ => ?_) (fun _ => ?_) | with_reducible refine px_ndec (fun _ => ?_) (fun _ => ?_) | with_reducible refine px_split (fun _ => ?_) (fun _ => ?_) | with_reducible refine callC h1 (fun v4 hv4 => ?_) | with_reducible refine callC h2 (fun v5 hv5 => ?_) | with_reducible refine callE h3 ?_ | with_reducible refine callC h4 (fun v6 hv6 => ?_) | with_reducible refine callE h5 ?_ | simp -implicitDefEqProofs (maxSteps := 2000000) (disch := first | assumption | omega) [*, ])
      exact ⟨by omega, (_, _), ((hv3.trans hv4).trans hv5).trans hv6, by (refine Fits.of ?_ ?_; rotate_left; (repeat (first | with_reducible exact Off.refl _ _ | refine Off.upd rfl ?_ | refine Off.updO rfl ?_ | refine Off.upds rfl ?_)); simp [upd_apply, upds_cons]), rfl, rfl⟩
    · repeat' (first | with_reducible refine br_t ?_ | with_reducible refine br_f ?_ | with_reducible refine br_dec (fun _ => ?_) (fun _ => ?_) | with_reducible refine g_dec (fun _ => ?_) (fun _ => ?_) | with_reducible refine g_ndec (fun _ => ?_) (fun _ => ?_) | with_reducible refine br_not (fun _ => ?_) (fun _ => ?_) | with_reducible refine br_split (fun _ => ?_) (fun _ => ?_) | with_reducible refine g_not (fun _ => ?_) (fun _ => ?_) | with_reducible refine g_split (fun _ => ?_) (fun _ => ?_) | with_reducible refine px_dec (fun _ => ?_) (fun _ => ?_) | with_reducible refine px_ndec (fun _ => ?_) (fun _ => ?_) | with_reducible refine px_split (fun _ => ?_) (fun _ => ?_) | with_reducible refine callC h1 (fun v4 hv4 => ?_) | with_reducible refine callC h2 (fun v5 hv5 => ?_) | with_reducible refine callE h3 ?_ | with_reducible refine callC h4 (fun v6 hv6 => ?_) | simp -implicitDefEqProofs (maxSteps := 2000000) (disch := first | assumption | omega) [*, ])
      exact ⟨by omega, (_, _), ((hv3.trans hv4).trans hv5).trans hv6, by (refine Fits.of ?_ ?_; rotate_left; (repeat (first | with_reducible exact Off.refl _ _ | refine Off.upd rfl ?_ | refine Off.updO rfl ?_ | refine Off.upds rfl ?_)); simp [upd_apply, upds_cons]), rfl, rfl⟩
  · repeat' (first | with_reducible refine br_t ?_ | with_reducible refine br_f ?_ | with_reducible refine br_dec (fun _ => ?_) (fun _ => ?_) | with_reducible refine g_dec (fun _ => ?_) (fun _ => ?_) | with_reducible refine g_ndec (fun _ => ?_) (fun _ => ?_) | with_reducible refine br_not (fun _ => ?_) (fun _ => ?_) | with_reducible refine br_split (fun _ => ?_) (fun _ => ?_) | with_reducible refine g_not (fun _ => ?_) (fun _ => ?_) | with_reducible refine g_split (fun _ => ?_) (fun _ => ?_) | with_reducible refine px_dec (fun _ => ?_) (fun _ => ?_) | with_reducible refine px_ndec (fun _ => ?_) (fun _ => ?_) | with_reducible refine px_split (fun _ => ?_) (fun _ => ?_) | with_reducible refine callC lives_p (fun v4 hv4 => ?_) | simp -implicitDefEqProofs (maxSteps := 2000000) (disch := first | assumption | omega) [*, ])
    exact Ends.eqat rfl rfl (hv3.trans hv4)
end Go.Hb
