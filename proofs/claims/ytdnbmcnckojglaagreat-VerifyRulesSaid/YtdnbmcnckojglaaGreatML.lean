/-
  A layer for reasoning about the program's calls, and contracts of its functions (ML). CONDITIONS: none; each theorem bears its own.
-/
import Derived.Test.YtdnbmcnckojglaaGreatMK
import Derived.Test.YtdnbmcnckojglaaGreatL8
set_option linter.unusedVariables false
set_option linter.unusedSimpArgs false
section
namespace Go.Hb
open Go Go.Proofs Go.RowKit
set_option maxRecDepth 100000
set_option maxHeartbeats 800000
attribute [-simp] aC aL aOper aThen aInBlock aIf aPlan aAppend aLen aIndexAddr aSlice aCells aBounds lBr aq initT aev aAppendOwn aAppendNil aAppendNew aAppendRef LV.cells LV.cellsOk getElem?_pos getElem?_neg
attribute [local simp] Cor.lv
theorem waitAll_succ {q : List (List Int)} {l : List Int} {t : Int} {k : Nat} (h : k < l.length) : waitAll q (l.take (k + 1)) t = (waitAll q (l.take k) t).set (nth l k).toNat (at' (waitAll q (l.take k) t) (nth l k) ++ [t]) := by
 unfold waitAll; rw [take_succ_nth h, List.foldl_append]; rfl
theorem waitAll_len (q : List (List Int)) (t : Int) : ∀ (l : List Int), (waitAll q l t).length = q.length := by
 intro l
 induction l generalizing q with
 | nil => rfl
 | cons a l ih => show (waitAll (q.set _ _) l t).length = _; rw [ih]; simp
theorem waitAll_row (t : Int) : ∀ (l : List Int) (q : List (List Int)) (B : Nat), (∀ r ∈ q, r.length ≤ B) → (∀ x ∈ l, x.toNat < q.length) → ∀ r ∈ waitAll q l t, r.length ≤ B + l.length
 | [], q, B, h, _, r, hr => by have := h r hr; simp; omega
 | a :: l, q, B, h, hx, r, hr => by
  have h2 := waitAll_row t l (q.set a.toNat (at' q a ++ [t])) (B + 1) (fun r hr => by
   rcases List.mem_or_eq_of_mem_set hr with hr | rfl
   ·have := h r hr; omega
   ·have := h _ (nth_mem (hx a (by simp))); simp [at']; omega) (fun x hx' => by simpa using hx x (by simp [hx'])) r hr
  simp at h2 ⊢; omega
theorem find_at {α : Type} [Enc α] {p : α → Bool} {l : List α} {k : Nat} (h : k < l.length) (h1 : ∀ j, j < k → p (nth l j) = false) (h2 : p (nth l k) = true) : l.findIdx? p = some k := by
 rw [List.findIdx?_eq_some_iff_getElem]
 refine ⟨h, by rw [← nth_eq h]; exact h2, fun j hj => ?_⟩
 rw [← nth_eq (by omega), h1 j hj]; simp
theorem find_none {α : Type} [Enc α] {p : α → Bool} {l : List α} (h1 : ∀ j, j < l.length → p (nth l j) = false) : l.findIdx? p = none := by
 rw [List.findIdx?_eq_none_iff]
 intro x hx
 obtain ⟨j, hj, rfl⟩ := List.getElem_of_mem hx
 rw [← nth_eq hj]; exact h1 j hj
theorem select_p {c : Cor} {l : List Int} {t : Int} (hb : CorB c) (hl : l.length ≤ 8) (hin : ∀ x ∈ l, 0 ≤ x ∧ x < c.bufs.length) (e1 : c.bufs.length ≤ c.sendq.length) (e2 : c.bufs.length ≤ c.recvq.length) (hn : c.bufs.length ≠ 0)
  (h4 : ∀ k, k < c.sendq.length → 0 < (nth c.sendq k).length → 2 ≤ (nth c.sendq k).length) (h5 : ∀ r ∈ c.recvq, r.length ≤ 100) :
  PureC Tryz.prog 257 [.agg [.int .i64 c.now, row c.threads, row c.owners, row c.counts, row c.bufs, row c.lockq, row c.waitq, row c.downq, row c.sendq, row c.recvq], row l, .int .i64 t] (.tup [.agg (selectC c l t).1.lv, .int .i64 (selectC c l t).2.1, .int .i64 (selectC c l t).2.2.1, .int .i64 (selectC c l t).2.2.2.1, .bool (selectC c l t).2.2.2.2]) := by
 intro s v
 refine aCalls_deep ?_
 refine aCalls_go Tryz.func257 rfl (by decide) Tryz.ntmps257 (by simp) false ?_
 have hres : Tryz.f257.results = #[.cell 6 30, .tmp 7, .tmp 8, .tmp 9, .tmp 10] := rfl
 repeat' (first|(with_reducible first|refine bt ?_|refine bf ?_|(first|refine bc ?_ ?_|refine gc ?_ ?_|refine pc ?_ ?_)<;>intro _|(refine dr P257 mixed ?_ ?_ ?_;kernel_rfl;kernel_rfl))|simp -implicitDefEqProofs(maxSteps:=2000000)(disch:=first|assumption|omega)[*, ])
 refine aW_for (β := Unit) false l.length (fun k _ => ∀ j, j < k → readyC c (nth l j) = false) (fun k _ => [(11, .int .i64 k), (18, .any), (19, .any), (20, .any), (21, .any), (24, .any), (25, .any), (26, .any), (27, .any), (28, .any), (29, .any), (12, .any), (30, .any), (32, .any), (33, .any), (34, .any), (35, .any), (36, .any), (37, .any), (38, .any), (31, .any), (39, .any), (40, .any), (41, .any), (42, .any), (13, .any), (14, .any), (15, .any), (16, .any), (43, .any), (44, .any), (45, .any), (46, .any), (7, .any), (8, .any), (9, .any), (10, .any), (22, .any), (23, .any)]) (fun _ _ => s ++ [AObj.cells [.int .i64 c.now, row c.threads, row c.owners, row c.counts, row c.bufs, row c.lockq, row c.waitq, row c.downq, row c.sendq, row c.recvq], AObj.cells [.int .i64 0, .nils, .nils, .nils, .nils, .nils, .nils, .nils, .nils, .nils]]) (fun _ _ => v) ?_ ?_
 ·exact ⟨(), by simp, by (refine Fits.of ?_ (Off.refl _ _); simp [upd_apply, upds_cons]), rfl, rfl⟩
 rintro k _ hk hI
 by_cases hlt : k < l.length
 ·obtain ⟨hi0, hi1⟩ := hin _ (nth_mem hlt)
  have hx := ix_in (l := l) (i := (k : Int)) (by omega) (by omega)
  have hr := chready_p hb hi0 hi1 (by omega)
  cases hrd : readyC c (nth l k)
  ·rw [hrd] at hr
   repeat' (first|(with_reducible first|refine bt ?_|refine bf ?_|(first|refine bc ?_ ?_|refine gc ?_ ?_|refine pc ?_ ?_)<;>intro _|(refine dr P257 mixed ?_ ?_ ?_;kernel_rfl;kernel_rfl)|refine andC ?_ ?_|refine callE hr ?_)|simp -implicitDefEqProofs(maxSteps:=2000000)(disch:=first|assumption|omega)[*, ])
   exact ⟨hlt, (), fun j hj => by
    by_cases e : j = k
    ·subst e; exact hrd
    ·exact hI j (by omega), by (refine Fits.of ?_ ?_; rotate_left; (repeat (first | with_reducible exact Off.refl _ _ | refine Off.upd rfl ?_ | refine Off.updO rfl ?_ | refine Off.upds rfl ?_)); simp [upd_apply, upds_cons]), rfl, rfl⟩
  ·rw [hrd] at hr
   have hs : selectC c l t = ((recvC c (nth l k) t).1, (k : Int), (recvC c (nth l k) t).2.1, (recvC c (nth l k) t).2.2.1, true) := by unfold selectC; rw [find_at hlt hI hrd]
   rw [hs]
   have hc := recv_p (t := t) hb hi0 hi1 (by omega) (by omega) (h4 _ (by omega))
   generalize recvC c (nth l k) t = u at *
   simp only [Cor.lv] at hc
   clear hs
   repeat' (first|(with_reducible first|refine bt ?_|refine bf ?_|(first|refine bc ?_ ?_|refine gc ?_ ?_|refine pc ?_ ?_)<;>intro _|(refine dr P257 mixed ?_ ?_ ?_;kernel_rfl;kernel_rfl)|refine andC ?_ ?_|refine callE hr ?_|refine callC hc (fun v1 hv1 => ?_))|simp -implicitDefEqProofs(maxSteps:=2000000)(disch:=first|assumption|omega)[*, ])
   all_goals exact .keep _ (by simp [LV.under, undersB])
 ·have : k = l.length := by omega
  subst this
  have hs : selectC c l t = ({ c with recvq := waitAll c.recvq l t }, -1, 0, -1, false) := by unfold selectC; rw [find_none hI]
  rw [hs]
  clear hs hI
  repeat' (first|(with_reducible first|refine bt ?_|refine bf ?_|(first|refine bc ?_ ?_|refine gc ?_ ?_|refine pc ?_ ?_)<;>intro _|(refine dr P257 mixed ?_ ?_ ?_;kernel_rfl;kernel_rfl)|refine andC ?_ ?_|refine callCh (chown_c hb) (fun v' J xB xS xR cB cS cR dB dS dR qB qS qR ho => ?_))|simp -implicitDefEqProofs(maxSteps:=2000000)(disch:=first|assumption|omega)[*, ])
  replace ho := ho.lay
  obtain ⟨er, jR, lR, nR⟩ := ho.recvq.obj (by omega)
  have hdR := (List.getElem?_eq_some_iff.1 jR).1
  have hw := ho.w
  have hgR := ho.gR
  subst er
  clear ho
  repeat' (first|(with_reducible first|refine bt ?_|refine bf ?_|(first|refine bc ?_ ?_|refine gc ?_ ?_|refine pc ?_ ?_)<;>intro _|(refine dr P257 mixed ?_ ?_ ?_;kernel_rfl;kernel_rfl))|simp -implicitDefEqProofs(maxSteps:=2000000)(disch:=first|assumption|omega)[*, ])
  refine aW_for (β := List LV × List Nat) false l.length (fun k p => ListsG v p.2 (waitAll c.recvq (l.take k) t) p.1) (fun k p => [(17, .int .i64 k), (49, .any), (50, .any), (51, .any), (52, .any), (55, .any), (56, .any), (57, .any), (58, .any), (59, .any), (60, .any), (61, .any), (62, .any), (63, .any), (64, .any), (65, .any), (66, .any), (67, .any), (68, .any), (69, .any), (70, .any), (71, .any), (72, .any), (53, .any), (54, .any)]) (fun _ p => s ++ (AObj.cells [.int .i64 c.now, row c.threads, row c.owners, row c.counts, xB, row c.lockq, row c.waitq, row c.downq, xS, .ref 1 (s.length + (dR + 2)) 0 c.recvq.length false] :: AObj.cells [.int .i64 0, .nils, .nils, .nils, .nils, .nils, .nils, .nils, .nils, .nils] :: J.set dR (.cells p.1))) (fun _ p => p.2) ?_ ?_
  ·have hself : J.set dR (.cells cR) = J := by
    refine List.ext_getElem? fun j => ?_
    by_cases e : dR = j
    ·subst e; rw [List.getElem?_set_self hdR, jR]
    ·rw [List.getElem?_set_ne e]
   exact ⟨(cR, v'), by simpa [waitAll] using hgR, by (refine Fits.of ?_ (Off.refl _ _); simp [upd_apply, upds_cons]), by simp [hself], rfl⟩
  rintro k ⟨cs, v1⟩ hk hG
  simp only at hG
  by_cases hlt : k < l.length
  ·obtain ⟨hi0, hi1⟩ := hin _ (nth_mem hlt)
   have hx := ix_in (l := l) (i := (k : Int)) (by omega) (by omega)
   have hlen := waitAll_len c.recvq t (l.take k)
   have hrow := waitAll_row t (l.take k) c.recvq 100 h5 (fun x hx => by have := hin x (List.mem_of_mem_take hx); omega) _ (nth_mem (k := (nth l k).toNat) (by rw [hlen]; omega))
   obtain ⟨y, y2, v2, hy1, hy2, hy3, hG2, ha⟩ := hG.push (P := Tryz.prog) (t := 23) (t2 := 23) (by_ := 8) (by kernel_rfl) (by omega) (k := (nth l k).toNat) (by rw [hlen]; omega) t (by simp at hrow; omega)
   have hcl : cs.length = c.recvq.length := by rw [hG.len, hlen]
   have hm : (nth l k).toNat + 1 ≤ c.recvq.length := by omega
   have hm' : nth l k < c.recvq.length := by omega
   have hdg : ∀ cs, (J.set dR (AObj.cells cs))[dR]? = some (.cells cs) := fun cs => by rw [List.getElem?_set_self hdR]
   have hsucc := waitAll_succ (q := c.recvq) (t := t) hlt
   repeat' (first|(with_reducible first|refine bt ?_|refine bf ?_|(first|refine bc ?_ ?_|refine gc ?_ ?_|refine pc ?_ ?_)<;>intro _|(refine dr P257 mixed ?_ ?_ ?_;kernel_rfl;kernel_rfl))|simp -implicitDefEqProofs(maxSteps:=2000000)(disch:=first|assumption|omega)[*, ])
   exact ⟨hlt, (cs.set (nth l k).toNat y2, v2), by show ListsG v v2 (waitAll c.recvq (l.take (k + 1)) t) _; rw [hsucc]; exact hG2, by (refine Fits.of ?_ ?_; rotate_left; (repeat (first | with_reducible exact Off.refl _ _ | refine Off.upd rfl ?_ | refine Off.updO rfl ?_ | refine Off.upds rfl ?_)); simp [upd_apply, upds_cons]), by simp, rfl⟩
  ·have : k = l.length := by omega
   subst this
   rw [List.take_of_length_le (Nat.le_refl _)] at hG
   have hpre := hG.pre
   repeat' (first|(with_reducible first|refine bt ?_|refine bf ?_|(first|refine bc ?_ ?_|refine gc ?_ ?_|refine pc ?_ ?_)<;>intro _|(refine dr P257 mixed ?_ ?_ ?_;kernel_rfl;kernel_rfl))|simp -implicitDefEqProofs(maxSteps:=2000000)(disch:=first|assumption|omega)[*, ])
   exact .tup _ _ (.cons _ _ _ _ ((hw.setR (by omega) (L := waitAll c.recvq l t) (cs := cs) (waitAll_len _ _ _) hG.weak).box _ _).deep (.cons _ _ _ _ (.keep _ rfl) (.cons _ _ _ _ (.keep _ rfl) (.cons _ _ _ _ (.keep _ rfl) (.cons _ _ _ _ (.keep _ rfl) .nil)))))
end Go.Hb
end

section
namespace Go.Hb
open Go Go.Proofs Go.RowKit
set_option maxRecDepth 100000
set_option maxHeartbeats 800000
attribute [-simp] aC aL aOper aThen aInBlock aIf aPlan aAppend aLen aIndexAddr aSlice aCells aBounds lBr aq initT aev aAppendOwn aAppendNil aAppendNew aAppendRef LV.cells LV.cellsOk getElem?_pos getElem?_neg
attribute [local simp] Cor.lv Thr.lv
theorem with_p {c : Cor} {t : Int} {x : Thr} (hb : c.threads.length ≤ 1000) (h0 : 0 ≤ t) (h1 : t < c.threads.length) : PureE Tryz.prog 98 [.agg [.int .i64 c.now, row c.threads, row c.owners, row c.counts, row c.bufs, row c.lockq, row c.waitq, row c.downq, row c.sendq, row c.recvq], .int .i64 t, .agg [.int .i64 x.state, .int .i64 x.on, row x.frames, row x.stack, .int .i64 x.code]] (.agg (withT c t x).lv) := by
 intro s v
 refine aCalls_deep ?_
 have hne : c.threads ≠ [] := by intro e; rw [e] at h1; simp at h1; omega
 have hn0 : c.threads.length ≠ 0 := fun e => hne (List.length_eq_zero_iff.1 e)
 obtain ⟨xT, JT, ha, hJ⟩ := own_nil (P := Tryz.prog) (t := 28) (t2 := 28) (sz := 5) (by_ := 72) (by kernel_rfl) rfl (by omega) (l := c.threads) (by unfold maxLen; omega) (by omega) (s ++ [AObj.cells [.int .i64 c.now, row c.threads, row c.owners, row c.counts, row c.bufs, row c.lockq, row c.waitq, row c.downq, row c.sendq, row c.recvq], AObj.cells [.int .i64 x.state, .int .i64 x.on, row x.frames, row x.stack, .int .i64 x.code], AObj.cells [.int .i64 0, .nils, .nils, .nils, .nils, .nils, .nils, .nils, .nils, .nils]])
 obtain ⟨_, rfl, rfl⟩ := hJ.resolve_left fun h => hne h.1
 clear hJ
 have hset := thr_set c.threads t.toNat x (by omega)
 have hle : t.toNat * 5 + 5 ≤ (rowCs c.threads).length := by rw [rowCs_len]; simp; omega
 have hle2 : t.toNat * 5 + 5 ≤ c.threads.length * 5 := by omega
 simp only [setAt] at hset
 refine aCalls_go Tryz.func98 rfl (by decide) Tryz.ntmps98 (by simp) true ?_
 have hres : Tryz.f98.results = #[.cell 6 30] := rfl
 repeat' (first|(with_reducible first|refine bt ?_|refine bf ?_|(first|refine bc ?_ ?_|refine gc ?_ ?_|refine pc ?_ ?_)<;>intro _)|simp -implicitDefEqProofs(maxSteps:=2000000)(disch:=first|assumption|omega)[*, ])
 have hel : (c.threads.set t.toNat x).length = c.threads.length := List.length_set
 refine .agg _ _ (.cons _ _ _ _ (.keep _ rfl) (.cons _ _ _ _ ?_ (keepAll _ (by simp [undersB, withT]))))
 rw [← hel]
 exact DeepV.ref_row (α := Thr) (by omega) (by rw [get_app]; rfl) (rowCs_ne (by simp) (by intro e; rw [e] at hel; simp at hel; omega))
theorem see_p {x : Xs} {k t n : Int} (hb : x.seen.length ≤ 100000) : PureC Tryz.prog 183 [.agg x.lv, .int .i64 k, .int .i64 t, .int .i64 n] (.agg (seeX x k t n).lv) := by
 refine .of fun s v => ?_
 obtain ⟨p, c, xt, seen, woken⟩ := x
 simp only at hb
 simp only [Xs.lv, Prog.lv, Cor.lv, List.cons_append, List.nil_append, seeX]
 obtain ⟨x1, v1, g1, _, ga⟩ := (GroE.nil v (α := Evt)).appr (P := Tryz.prog) (t := 70) (t2 := 70) (by_ := 24) (by kernel_rfl) (by omega) seen (by simp; omega)
 obtain ⟨x2, v2, g2, _, gb⟩ := g1.push (P := Tryz.prog) (t := 70) (t2 := 70) (sz := 3) (by_ := 24) (by kernel_rfl) rfl (by omega) ⟨k, t, n⟩ (by simp; omega)
 simp only [enc_evt] at gb
 have c1 := g1.gro.cells
 have c2 := g2.gro.cells
 simp only [List.nil_append] at g2
 refine aCalls_go Tryz.func183 rfl (by decide) Tryz.ntmps183 (by simp) false ?_
 have hres : Tryz.f183.results = #[.cell 8 139] := rfl
 repeat' (first|(with_reducible first|refine bt ?_|refine bf ?_|(first|refine bc ?_ ?_|refine gc ?_ ?_|refine pc ?_ ?_)<;>intro _)|simp -implicitDefEqProofs(maxSteps:=2000000)(disch:=first|assumption|omega)[*, ])
 have hu := g2.gro.under
 exact Ends.at (by simp [hu]) (Weak.agg ⟨Weak.refl _, Weak.refl _, Weak.refl _, Weak.refl _, Weak.refl _, Weak.refl _, Weak.refl _, Weak.refl _, Weak.refl _, Weak.refl _, Weak.refl _, Weak.refl _, Weak.refl _, Weak.refl _, Weak.refl _, Weak.refl _, Weak.refl _, Weak.refl _, g2.gro.weak, Weak.refl _, trivial⟩) g2.1
theorem rest_p {x : Xs} {t st on : Int} (hb : x.c.threads.length ≤ 1000) (h0 : 0 ≤ t) (h1 : t < x.c.threads.length) : PureC Tryz.prog 178 [.agg x.lv, .int .i64 t, .int .i64 st, .int .i64 on] (.agg (restX x t st on).lv) := by
 refine .of fun s v => ?_
 obtain ⟨p, c, xt, seen, woken⟩ := x
 simp only at hb h0 h1
 have hx := ix_in h0 h1
 have hw := with_p (c := c) (t := t) (x := { at' c.threads t with state := st, on := on }) hb h0 h1
 simp only [Xs.lv, Prog.lv, restX, List.cons_append, List.nil_append]
 simp only [at'] at hw ⊢
 generalize withT c t { nth c.threads t.toNat with state := st, on := on } = c2 at *
 simp only [Cor.lv, List.cons_append, List.nil_append] at hw ⊢
 refine aCalls_go Tryz.func178 rfl (by decide) Tryz.ntmps178 (by simp) false ?_
 have hres : Tryz.f178.results = #[.cell 8 139] := rfl
 repeat' (first|(with_reducible first|refine bt ?_|refine bf ?_|(first|refine bc ?_ ?_|refine gc ?_ ?_|refine pc ?_ ?_)<;>intro _|refine callE hw ?_)|simp -implicitDefEqProofs(maxSteps:=2000000)(disch:=first|assumption|omega)[*, ])
 exact Ends.eqat rfl (by simp) (List.prefix_refl _)
end Go.Hb
end

