/-
  A layer for reasoning about the program's calls, and contracts of its functions (NA). CONDITIONS: none; each theorem bears its own.
-/
import Derived.Test.YtdnbmcnckojglaaGreatTy
import Derived.Test.YtdnbmcnckojglaaGreatL9
import Derived.Test.YtdnbmcnckojglaaGreatL6
set_option linter.unusedVariables false
set_option linter.unusedSimpArgs false
namespace Go.Hb
open Go Go.Proofs Go.RowKit
set_option maxRecDepth 100000
set_option maxHeartbeats 800000
attribute [-simp] aC aL aOper aThen aInBlock aIf aPlan aAppend aLen aIndexAddr aSlice aCells aBounds lBr aq initT aev aAppendOwn aAppendNil aAppendNew aAppendRef LV.cells LV.cellsOk getElem?_pos getElem?_neg
theorem sindex_p {l : List Int} {x : Int} (hb : l.length ≤ 9223372036854775807) : PureE Tryz.prog 184 [row l, .int .i64 x] (.int .i64 (idx l x)) := by
 refine .of fun s v => ?_
 refine aCalls_go Tryz.func184 rfl (by decide) Tryz.ntmps184 (by simp) false ?_
 have hres : Tryz.f184.results = #[.tmp 4] := rfl
 repeat' (first|(with_reducible first|refine bt ?_|refine bf ?_|(first|refine bc ?_ ?_|refine gc ?_ ?_|refine pc ?_ ?_)<;>intro _)|simp -implicitDefEqProofs(maxSteps:=2000000)(disch:=first|assumption|omega)[*, ])
 refine aW_for (β := Unit) false l.length (fun k _ => ∀ j, j < k → nth l j ≠ x) (fun k _ => [(8, .int .i64 k), (9, .any), (10, .any), (5, .any), (11, .any), (12, .any), (13, .any), (14, .any), (15, .any), (16, .any), (17, .any), (4, .any), (18, .any)]) (fun _ _ => s) (fun _ _ => v) ?_ ?_
 ·exact ⟨(), by simp, by (refine Fits.of ?_ (Off.refl _ _); simp [upd_apply, upds_cons]), rfl, rfl⟩
 rintro k _ hk hI
 by_cases hlt : k < l.length
 ·have hx := ix_in (l := l) (i := (k : Int)) (by omega) (by omega)
  by_cases he : nth l k = x
  ·have hf : idx l x = k := fidx_at (p := fun y => decide (y = x)) hlt (fun j hj => by simpa using hI j hj) (by simpa using he)
   rw [hf]
   have he' : x = nth l k := he.symm
   clear he
   subst he'
   repeat' (first|(with_reducible first|refine bt ?_|refine bf ?_|(first|refine bc ?_ ?_|refine gc ?_ ?_|refine pc ?_ ?_)<;>intro _)|simp -implicitDefEqProofs(maxSteps:=2000000)(disch:=first|assumption|omega)[*, ])
   exact EndsE.eq rfl (by simp)
  ·have he' : ¬ x = nth l k := fun e => he e.symm
   repeat' (first|(with_reducible first|refine bt ?_|refine bf ?_|(first|refine bc ?_ ?_|refine gc ?_ ?_|refine pc ?_ ?_)<;>intro _)|simp -implicitDefEqProofs(maxSteps:=2000000)(disch:=first|assumption|omega)[*, ])
   exact ⟨hlt, (), fun j hj => by
    by_cases e : j = k
    ·subst e; exact he
    ·exact hI j (by omega), by (refine Fits.of ?_ ?_; rotate_left; (repeat (first | with_reducible exact Off.refl _ _ | refine Off.upd rfl ?_ | refine Off.updO rfl ?_ | refine Off.upds rfl ?_)); simp [upd_apply, upds_cons]), rfl, rfl⟩
 ·have : k = l.length := by omega
  subst this
  have hf : idx l x = -1 := fidx_none (p := fun y => decide (y = x)) fun j hj => by simpa using hI j hj
  rw [hf]
  repeat' (first|(with_reducible first|refine bt ?_|refine bf ?_|(first|refine bc ?_ ?_|refine gc ?_ ?_|refine pc ?_ ?_)<;>intro _)|simp -implicitDefEqProofs(maxSteps:=2000000)(disch:=first|assumption|omega)[*, ])
  exact EndsE.eq rfl (by simp)
theorem idx_pos (l : List Int) (x : Int) : (0 ≤ idx l x) ↔ x ∈ l := by
 unfold idx
 cases h : l.findIdx? fun y => decide (y = x) with
 | some i =>
  obtain ⟨h1, h2, _⟩ := List.findIdx?_eq_some_iff_getElem.1 h
  simp at h2
  simp only [Int.natCast_nonneg, true_iff]
  rw [← h2]; exact List.getElem_mem h1
 | none =>
  rw [List.findIdx?_eq_none_iff] at h
  constructor
  ·intro h0; simp at h0
  ·intro hm; have := h x hm; simp at this
theorem contains_p {l : List Int} {x : Int} (hb : l.length ≤ 9223372036854775807) : PureE Tryz.prog 102 [row l, .int .i64 x] (.bool (decide (x ∈ l))) := by
 refine .of fun s v => ?_
 have hi := sindex_p (x := x) hb
 have hp := idx_pos l x
 have hd : decide (x ∈ l) = decide (0 ≤ idx l x) := by rw [Bool.eq_iff_iff]; simp [hp]
 rw [hd]
 clear hd hp
 generalize idx l x = i at *
 refine aCalls_go Tryz.func102 rfl (by decide) Tryz.ntmps102 (by simp) false ?_
 have hres : Tryz.f102.results = #[.tmp 4] := rfl
 repeat' (first|(with_reducible first|refine bt ?_|refine bf ?_|(first|refine bc ?_ ?_|refine gc ?_ ?_|refine pc ?_ ?_)<;>intro _|refine callE hi ?_)|simp -implicitDefEqProofs(maxSteps:=2000000)(disch:=first|assumption|omega)[*, ])
 all_goals exact EndsE.eq (by simp) (by simp)
theorem count_p {l : List Int} {x : Int} (hb : l.length ≤ 1000000) : PureE Tryz.prog 106 [row l, .int .i64 x] (.int .i64 (l.count x)) := by
 refine .of fun s v => ?_
 refine aCalls_go Tryz.func106 rfl (by decide) Tryz.ntmps106 (by simp) false ?_
 have hres : Tryz.f106.results = #[.tmp 4] := rfl
 repeat' (first|(with_reducible first|refine bt ?_|refine bf ?_|(first|refine bc ?_ ?_|refine gc ?_ ?_|refine pc ?_ ?_)<;>intro _)|simp -implicitDefEqProofs(maxSteps:=2000000)(disch:=first|assumption|omega)[*, ])
 refine aW_for (β := Unit) false l.length (fun k _ => True) (fun k _ => [(5, .int .i64 ((l.take k).count x)), (10, .int .i64 k), (11, .any), (12, .any), (13, .any), (7, .any), (14, .any), (15, .any), (16, .any), (17, .any), (18, .any), (19, .any)]) (fun _ _ => s) (fun _ _ => v) ?_ ?_
 ·exact ⟨(), trivial, by (refine Fits.of ?_ (Off.refl _ _); simp [upd_apply, upds_cons]), rfl, rfl⟩
 rintro k _ hk -
 have hc : (l.take k).count x ≤ k := Nat.le_trans List.count_le_length (by simp; omega)
 by_cases hlt : k < l.length
 ·have hx := ix_in (l := l) (i := (k : Int)) (by omega) (by omega)
  have hs : (l.take (k + 1)).count x = (l.take k).count x + if nth l k = x then 1 else 0 := by
   rw [take_succ_nth hlt, List.count_append, List.count_singleton]
   simp
  by_cases he : nth l k = x
  ·rw [if_pos he] at hs
   generalize (l.take k).count x = m at *
   repeat' (first|(with_reducible first|refine bt ?_|refine bf ?_|(first|refine bc ?_ ?_|refine gc ?_ ?_|refine pc ?_ ?_)<;>intro _)|simp -implicitDefEqProofs(maxSteps:=2000000)(disch:=first|assumption|omega)[*, ])
   exact ⟨hlt, (), trivial, by (refine Fits.of ?_ ?_; rotate_left; (repeat (first | with_reducible exact Off.refl _ _ | refine Off.upd rfl ?_ | refine Off.updO rfl ?_ | refine Off.upds rfl ?_)); simp [upd_apply, upds_cons, hs]), rfl, rfl⟩
  ·rw [if_neg he] at hs
   generalize (l.take k).count x = m at *
   repeat' (first|(with_reducible first|refine bt ?_|refine bf ?_|(first|refine bc ?_ ?_|refine gc ?_ ?_|refine pc ?_ ?_)<;>intro _)|simp -implicitDefEqProofs(maxSteps:=2000000)(disch:=first|assumption|omega)[*, ])
   exact ⟨hlt, (), trivial, by (refine Fits.of ?_ ?_; rotate_left; (repeat (first | with_reducible exact Off.refl _ _ | refine Off.upd rfl ?_ | refine Off.updO rfl ?_ | refine Off.upds rfl ?_)); simp [upd_apply, upds_cons, hs]), rfl, rfl⟩
 ·have : k = l.length := by omega
  subst this
  rw [List.take_of_length_le (Nat.le_refl _)] at *
  repeat' (first|(with_reducible first|refine bt ?_|refine bf ?_|(first|refine bc ?_ ?_|refine gc ?_ ?_|refine pc ?_ ?_)<;>intro _)|simp -implicitDefEqProofs(maxSteps:=2000000)(disch:=first|assumption|omega)[*, ])
  exact EndsE.eq rfl (by simp)
theorem aRound_args {P : Program} {l : Nat} {args args' : List LV} {s : List AObj} {v : List Nat} {Q : LV → List AObj → List Nat → Prop} (hw : Weaks args args') (h : aRound P l args' s v Q) : aRound P l args s v Q :=
 fun C vs h1 h2 h3 => h C vs h1 h2 (hw.rel h3)
theorem chunk_t {l : List Int} {s : List AObj} {v : List Nat} :
  aCalls Tryz.prog 143 [row l, .int .i64 2] s v fun x s' v' => x = .fn (.func 211) [] [.ptr s.length 0, .ptr (s.length + 1) 0] ∧ s ++ [.cells [row l], .cells [.int .i64 2]] = s' ∧ v = v' := by
 refine aCalls_go Tryz.func143 rfl (by decide) Tryz.ntmps143 (by simp) false ?_
 have hres : Tryz.f143.results = #[.tmp 4] := rfl
 repeat' (first|(with_reducible first|refine bt ?_|refine bf ?_|(first|refine bc ?_ ?_|refine gc ?_ ?_|refine pc ?_ ?_)<;>intro _)|simp -implicitDefEqProofs(maxSteps:=2000000)(disch:=first|assumption|omega)[*, ])
theorem chunk1_t {l i1 i2 : Nat} {q : List Int} {J : Nat → List AObj → List Nat → Prop} {s : List AObj} {v : List Nat} (he : q.length % 2 = 0) (hb : q.length ≤ 1000000) (h0 : J 0 s v)
  (hJ : ∀ k s v, J k s v → s[i1]? = some (.cells [row q]) ∧ s[i2]? = some (.cells [.int .i64 2]))
  (hY : ∀ k s v, J k s v → 2 * k + 1 < q.length → aRound Tryz.prog l [row [nth q (2 * k), nth q (2 * k + 1)]] s v fun x s' v' => x = .bool true ∧ J (k + 1) s' v') :
  aCalls Tryz.prog 211 [.yld l, .ptr i1 0, .ptr i2 0] s v fun _ s' v' => J (q.length / 2) s' v' := by
 refine aCalls_go Tryz.func211 rfl (by decide) Tryz.ntmps211 (by simp) false ?_
 have hres : Tryz.f211.results = #[] := rfl
 repeat' (first|(with_reducible first|refine bt ?_|refine bf ?_|(first|refine bc ?_ ?_|refine gc ?_ ?_|refine pc ?_ ?_)<;>intro _|(refine dr P211 mixed ?_ ?_ ?_;kernel_rfl;kernel_rfl))|simp -implicitDefEqProofs(maxSteps:=2000000)(disch:=first|assumption|omega)[*, ])
 refine aWl_fall (β := Nat × List AObj × List Nat) false (fun p => 2 * p.1 ≤ q.length ∧ J p.1 p.2.1 p.2.2) (fun p => q.length - 2 * p.1) (fun p => [(4, .int .i64 (2 * p.1 : Nat)), (6, .any), (7, .any), (8, .any), (9, .any), (13, .any), (14, .any), (15, .any), (16, .any), (17, .any), (18, .any), (5, .any), (19, .any), (20, .any), (21, .any), (22, .any), (23, .any), (24, .any), (25, .any), (26, .any), (27, .any), (28, .any), (29, .any), (30, .any), (10, .any), (11, .any), (12, .any)]) (fun p => p.2.1) (fun p => p.2.2) ?_ ?_
 ·exact ⟨(0, s, v), ⟨by simp, h0⟩, by (refine Fits.of ?_ (Off.refl _ _); simp [upd_apply, upds_cons]), rfl, rfl⟩
 rintro ⟨k, s1, v1⟩ ⟨hk, hJk⟩
 simp only at hk hJk
 obtain ⟨a1, a2⟩ := hJ _ _ _ hJk
 by_cases hlt : 2 * k < q.length
 ·have hY' := hY _ _ _ hJk (by omega)
  have hsl : aSlice Tryz.prog 23 (row q) (some (.int .i64 (2 * k : Nat))) (some (.int .i64 ((2 * k : Nat) + 2))) (some (.int .i64 ((2 * k : Nat) + 2))) = some (.imm 1 2 [.int .i64 (nth q (2 * k)), .int .i64 (nth q (2 * k + 1))] .full) := by
   have hc : ((rowCs q).drop (2 * k)).take 2 = [.int .i64 (nth q (2 * k)), .int .i64 (nth q (2 * k + 1))] := by
    have e1 : rowCs (q.drop (2 * k)) = (rowCs q).drop (2 * k) := by have := rowCs_drop q (2 * k); simpa using this.symm
    rw [← e1, drop_nth (by omega), drop_nth (by omega), rowCs_cons, rowCs_cons]
    rfl
   unfold aSlice row
   simp [aBounds, oInt, sliceR, hc]
   have t1 : (2 * (k : Int)).toNat = 2 * k := by omega
   have t2 : (2 * (k : Int) + 2).toNat = 2 * k + 2 := by omega
   rw [t1, t2, show 2 * k + 2 - 2 * k = 2 by omega]
   exact ⟨by omega, rfl, hc⟩
  generalize nth q (2 * k) = a at *
  generalize nth q (2 * k + 1) = c at *
  have hw : Weak (.imm 1 2 [.int .i64 a, .int .i64 c] .full) (row [a, c]) := Weak.row (l := [a, c]) (Weaks.refl _) rfl
  have hsl2 := aSlice_row_l (P := Tryz.prog) (t := 23) (κ := .i64) (l := q) (a := (2 * k : Nat)) (by omega) (by omega)
  have hlt' : ((2 * k : Nat) : Int) < q.length := by omega
  have hdl : (q.drop ((2 * k : Nat) : Int).toNat).length = q.length - 2 * k := by rw [List.length_drop]; omega
  have hdl2 : ¬ ((q.length - 2 * k : Nat) : Int) < 2 := by omega
  generalize hm : 2 * k = m at *
  repeat' (first|(with_reducible first|refine bt ?_|refine bf ?_|(first|refine bc ?_ ?_|refine gc ?_ ?_|refine pc ?_ ?_)<;>intro _|(refine dr P211 mixed ?_ ?_ ?_;kernel_rfl;kernel_rfl))|simp -implicitDefEqProofs(maxSteps:=2000000)(disch:=first|assumption|omega)[*, ])
  refine aRound_args (args' := [row [a, c]]) ⟨hw, trivial⟩ (aRound_mono hY' ?_)
  rintro _ s' v' ⟨rfl, hJ1⟩
  have b1 := (hJ _ _ _ hJ1).1
  have b2 := (hJ _ _ _ hJ1).2
  clear a1 a2
  repeat' (first|(with_reducible first|refine bt ?_|refine bf ?_|(first|refine bc ?_ ?_|refine gc ?_ ?_|refine pc ?_ ?_)<;>intro _|(refine dr P211 mixed ?_ ?_ ?_;kernel_rfl;kernel_rfl))|simp -implicitDefEqProofs(maxSteps:=2000000)(disch:=first|assumption|omega)[*, ])
  exact ⟨(k + 1, s', v'), by show q.length - 2 * (k + 1) < q.length - m; omega, ⟨by show 2 * (k + 1) ≤ q.length; omega, hJ1⟩, by (refine Fits.of ?_ ?_; rotate_left; (repeat (first | with_reducible exact Off.refl _ _ | refine Off.upd rfl ?_ | refine Off.updO rfl ?_ | refine Off.upds rfl ?_)); simp [upd_apply, upds_cons]; omega), rfl, rfl⟩
 ·have hke : k = q.length / 2 := by omega
  have hnl : ¬ ((2 * k : Nat) : Int) < q.length := by omega
  rw [hke] at hJk
  clear hke
  generalize hm : 2 * k = m at *
  repeat' (first|(with_reducible first|refine bt ?_|refine bf ?_|(first|refine bc ?_ ?_|refine gc ?_ ?_|refine pc ?_ ?_)<;>intro _|(refine dr P211 mixed ?_ ?_ ?_;kernel_rfl;kernel_rfl))|simp -implicitDefEqProofs(maxSteps:=2000000)(disch:=first|assumption|omega)[*, ])

theorem evens_succ : ∀ (l : List Int) (k : Nat), 2 * k + 1 < l.length → (evens l).take (k + 1) = (evens l).take k ++ [nth l (2 * k)]
 | [], k, h => by simp at h
 | [x], k, h => by simp at h
 | x :: y :: l, 0, h => by simp [evens, nth]
 | x :: y :: l, k + 1, h => by
  have ih := evens_succ l k (by simp at h; omega)
  simp only [evens, List.take_succ_cons, ih, List.cons_append]
  rw [show 2 * (k + 1) = 2 * k + 1 + 1 by omega]
  simp [nth]
set_option maxHeartbeats 8000000 in
theorem senders_p {c : Cor} {ch : Int} (h0 : 0 ≤ ch) (h1 : ch < c.sendq.length) (he : (nth c.sendq ch.toNat).length % 2 = 0) (hb : (nth c.sendq ch.toNat).length ≤ 1000000) : PureC Tryz.prog 185 [.agg [.int .i64 c.now, row c.threads, row c.owners, row c.counts, row c.bufs, row c.lockq, row c.waitq, row c.downq, row c.sendq, row c.recvq], .int .i64 ch] (row (evens (nth c.sendq ch.toNat))) := by
 refine Fresh.pure (Fresh.of fun s v => ?_)
 have hx := ix_in h0 h1
 have hck := fun s v => chunk_t (l := nth c.sendq ch.toNat) (s := s) (v := v)
 refine aCalls_go Tryz.func185 rfl (by decide) Tryz.ntmps185 (by simp) false ?_
 have hres : Tryz.f185.results = #[.tmp 4] := rfl
 repeat' (first|(with_reducible first|refine bt ?_|refine bf ?_|(first|refine bc ?_ ?_|refine gc ?_ ?_|refine pc ?_ ?_)<;>intro _|(refine dr P185 mixed ?_ ?_ ?_;kernel_rfl;kernel_rfl))|simp -implicitDefEqProofs(maxSteps:=2000000)(disch:=first|assumption|omega)[*, ])
 refine aCalls_mono (hck _ _) ?_
 rintro _ _ _ ⟨rfl, rfl, rfl⟩
 repeat' (first|(with_reducible first|refine bt ?_|refine bf ?_|(first|refine bc ?_ ?_|refine gc ?_ ?_|refine pc ?_ ?_)<;>intro _|(refine dr P185 mixed ?_ ?_ ?_;kernel_rfl;kernel_rfl))|simp -implicitDefEqProofs(maxSteps:=2000000)(disch:=first|assumption|omega)[*, ])
 show aW _ _ _ _ _ _
 refine aW_range (g := 211) (fa := []) (ca := [.ptr (s.length + 2) 0, .ptr (s.length + 3) 0]) (by simp [upd_apply]) rfl ?_
 simp only [List.nil_append, List.append_assoc, List.cons_append, List.length_append, List.length_cons, List.length_nil]
 generalize hlo : ALoop.mk LoopState.ready none _ _ _ _ _ = lo
 generalize hq : nth c.sendq ch.toNat = q at *
 let J : Nat → List AObj → List Nat → Prop := fun k s' v' => ∃ x K, s ++ (AObj.cells [.int .i64 c.now, row c.threads, row c.owners, row c.counts, row c.bufs, row c.lockq, row c.waitq, row c.downq, row c.sendq, row c.recvq] :: .cells [x] :: .cells [row q] :: .cells [.int .i64 2] :: .loop lo :: K) = s' ∧ GroE v v' ((evens q).take k) x
 refine aCalls_mono (chunk1_t (J := J) (q := q) he hb ?_ ?_ ?_) ?_
 ·exact ⟨.nils, [], rfl, GroE.nil _⟩
 ·rintro k _ _ ⟨x, K, rfl, _⟩
  exact ⟨by rw [get_app]; rfl, by rw [get_app]; rfl⟩
 ·rintro k _ v1 ⟨x, K, rfl, hG⟩ hlt
  refine aRound_of (lp := lo) (by rw [get_app]; rfl) (by subst hlo; rfl) (by subst hlo; simp) ?_
  have hla := congrArg ALoop.assign hlo.symm
  have hbo := congrArg ALoop.body hlo.symm
  have ht := congrArg ALoop.tmps hlo.symm
  have hpa := congrArg ALoop.params hlo.symm
  have hsz := congrArg ALoop.size hlo.symm
  have hst' := congrArg ALoop.state hlo.symm
  have hpe := congrArg ALoop.pending hlo.symm
  simp only at hla hbo ht hpa hsz hst' hpe
  rw [hla, hbo, hsz, hpa, ht]
  clear hla hbo ht
  have hes := evens_succ q k hlt
  have hel := evens_len he
  obtain ⟨x2, v2, g2, _, gb⟩ := hG.push (P := Tryz.prog) (t := 23) (t2 := 23) (sz := 1) (by_ := 8) (by kernel_rfl) rfl (by omega) (nth q (2 * k)) (by simp; omega)
  rw [← hes] at g2
  simp only [enc_int] at gb
  have hix : ix [nth q (2 * k), nth q (2 * k + 1)] 0 = some (.eptr [.int .i64 (nth q (2 * k))]) := by rw [ix_in (by omega) (by simp)]; rfl
  have hgc := g2.gro.cells
  have hgc0 := hG.gro.cells
  refine aC_sound (own := false) _ _ _ (show go _ ⟨⟩ _ from ?_)
  simp only [List.toList_toArray, List.zip_cons_cons, List.zip_nil_right, List.zip_nil_left, setParams, List.foldl_cons, List.foldl_nil]
  repeat' (first|(with_reducible first|refine bt ?_|refine bf ?_|(first|refine bc ?_ ?_|refine gc ?_ ?_|refine pc ?_ ?_)<;>intro _|(refine dr P185 mixed ?_ ?_ ?_;kernel_rfl;kernel_rfl))|simp -implicitDefEqProofs(maxSteps:=2000000)(disch:=first|assumption|omega)[*, ])
  refine aC_sound (own := false) _ _ _ (show go _ ⟨⟩ _ from ?_)
  repeat' (first|(with_reducible first|refine bt ?_|refine bf ?_|(first|refine bc ?_ ?_|refine gc ?_ ?_|refine pc ?_ ?_)<;>intro _|(refine dr P185 mixed ?_ ?_ ?_;kernel_rfl;kernel_rfl))|simp -implicitDefEqProofs(maxSteps:=2000000)(disch:=first|assumption|omega)[*, ])
  have hlo2 : (⟨.ready, none, lo.tmps, 21, #[13], lo.assign, lo.body⟩ : ALoop) = lo := by
   cases lo; simp only at hst' hpe hsz hpa; subst hst'; subst hpe; subst hsz; subst hpa; rfl
  refine ⟨_, by rw [get_app]; rfl, rfl, x2, K, ?_, g2⟩
  rw [set_app]
  simp only [List.set_cons_succ, List.set_cons_zero, hlo2]
 ·rintro _ _ _ ⟨x, K, rfl, hG⟩
  have hel := evens_len he
  have hfull : (evens q).take (q.length / 2) = evens q := List.take_of_length_le (by omega)
  rw [hfull] at hG
  have hgu := hG.gro
  have hgc := hG.gro.cells
  have hpe : lo.pending = none := by subst hlo; rfl
  refine ⟨lo, by rw [get_app]; rfl, by subst hlo; simp, ?_⟩
  rw [hpe, set_app]
  simp only [List.set_cons_succ, List.set_cons_zero]
  generalize AObj.loop _ = ob
  refine (show go (aInBlock 0 (aSeq Tryz.prog none _ false _ _) .normal) ⟨⟩ ⟨_, _, _⟩ from ?_)
  repeat' (first|(with_reducible first|refine bt ?_|refine bf ?_|(first|refine bc ?_ ?_|refine gc ?_ ?_|refine pc ?_ ?_)<;>intro _|(refine dr P185 mixed ?_ ?_ ?_;kernel_rfl;kernel_rfl))|simp -implicitDefEqProofs(maxSteps:=2000000)(disch:=first|assumption|omega)[*, ])
end Go.Hb
