/-
  A layer for reasoning about the program's calls, and contracts of its functions (MB). CONDITIONS: none; each theorem bears its own.
-/
import Derived.Test.YtdnbmcnckojglaaGreatMA
set_option linter.unusedVariables false
set_option linter.unusedSimpArgs false
namespace Go.Hb
open Go Go.Proofs Go.RowKit
set_option maxRecDepth 100000
set_option maxHeartbeats 800000
attribute [-simp] aC aL aOper aThen aInBlock aIf aPlan aAppend aLen aIndexAddr aSlice aCells aBounds lBr aq initT aev aAppendOwn aAppendNil aAppendNew aAppendRef LV.cells LV.cellsOk getElem?_pos getElem?_neg

theorem rclone_o {fr : List Frm} {sk : List Int} {st on co : Int} (hb : ThrB ⟨st, on, fr, sk, co⟩) {s : List AObj} {v : List Nat} : aCalls Tryz.prog 50 [.agg [.int .i64 st, .int .i64 on, row fr, row sk, .int .i64 co]] s v (CloneT ⟨st, on, fr, sk, co⟩ s v) := by
 obtain ⟨hb1, hb2, hb3⟩ := hb
 simp only at hb1 hb2 hb3
 refine aCalls_go Tryz.func50 rfl (by decide) Tryz.ntmps50 (by simp) true ?_
 have hres : Tryz.f50.results = #[.cell 2 66] := rfl
 repeat' (first|(with_reducible first|refine bt ?_|refine bf ?_|(first|refine bc ?_ ?_|refine gc ?_ ?_|refine pc ?_ ?_)<;>intro _)|simp -implicitDefEqProofs(maxSteps:=2000000)(disch:=first|assumption|omega)[*, ])
 refine aW_for (β := List AObj × List Nat × List LV × LV × Nat) true fr.length (fun k p => FrmsO (s ++ (.cells [.int .i64 st, .int .i64 on, row fr, row sk, .int .i64 co] :: .cells [.int .i64 0, .int .i64 0, .nils, .nils, .int .i64 0] :: p.1)) (s.length + 2) (fr.take k) p.2.1 p.2.2.1 p.2.2.2.1 p.2.2.2.2) (fun k p => [(3, p.2.2.2.1), (4, .int .i64 k), (8, .any), (9, .any), (10, .any), (11, .any), (12, .any), (15, .any), (16, .any), (17, .any), (18, .any), (19, .any), (5, .any), (6, .any), (20, .any), (21, .any), (22, .any), (23, .any), (24, .any), (25, .any), (26, .any), (27, .any), (28, .any), (13, .any), (14, .any)]) (fun _ p => s ++ (.cells [.int .i64 st, .int .i64 on, row fr, row sk, .int .i64 co] :: .cells [.int .i64 0, .int .i64 0, .nils, .nils, .int .i64 0] :: p.1)) (fun _ p => v) ?_ ?_
 ·exact ⟨([], [], [], .nils, s.length + 2), frms_nil _ _, by (refine Fits.of ?_ (Off.refl _ _); simp [upd_apply, upds_cons]), rfl, rfl⟩
 rintro k ⟨J, ids, r, xF, iF⟩ hk hF
 simp only at hF
 by_cases hlt : k < fr.length
 ·have hlc := hb3 _ (nth_mem hlt)
  have hx := ix_in (l := fr) (i := (k : Int)) (by omega) (by omega)
  have htk : (fr.take k).length = k := by simp; omega
  obtain ⟨x1, J1, ha1, hJ1⟩ := own_nil (P := Tryz.prog) (t := 23) (t2 := 23) (sz := 1) (by_ := 8) (by kernel_rfl) rfl (by omega) (l := (nth fr k).locals) (by unfold maxLen; omega) (by omega) (s ++ (.cells [.int .i64 st, .int .i64 on, row fr, row sk, .int .i64 co] :: .cells [.int .i64 0, .int .i64 0, .nils, .nils, .int .i64 0] :: (J ++ [AObj.cells [.int .i64 (nth fr k).func, .int .i64 (nth fr k).pc, row (nth fr k).locals]])))
  obtain ⟨iL, hiL1, hx1⟩ : ∃ iL, (s.length + (J.length + 2) ≤ iL ∧ iL < s.length + ((J ++ AObj.cells [.int .i64 (nth fr k).func, .int .i64 (nth fr k).pc, x1] :: J1).length + 2)) ∧ RowR (s ++ (.cells [.int .i64 st, .int .i64 on, row fr, row sk, .int .i64 co] :: .cells [.int .i64 0, .int .i64 0, .nils, .nils, .int .i64 0] :: (J ++ AObj.cells [.int .i64 (nth fr k).func, .int .i64 (nth fr k).pc, x1] :: J1))) 1 (nth fr k).locals.length (rowCs (nth fr k).locals) x1 iL := by
   rcases hJ1 with ⟨e1, rfl, rfl⟩ | ⟨e1, rfl, rfl⟩
   ·rw [e1]; exact ⟨s.length + (J.length + 2), ⟨by omega, by simp⟩, .inl ⟨rfl, rfl, rfl⟩⟩
   ·have hl1 : (nth fr k).locals.length ≠ 0 := fun e => e1 (List.length_eq_zero_iff.1 e)
    refine ⟨s.length + (J.length + 1 + 2), ⟨by omega, by simp⟩, .inr ⟨hl1, rowCs_ne (by simp) e1, by simp, ?_, by rw [rowCs_len]; simp⟩⟩
    rw [layB_get, List.getElem?_append_right (by omega)]; simp
  have c1 := hx1.cells
  obtain ⟨J2, ids2, hf, hF2⟩ := frms_step (P := Tryz.prog) (t := 64) (t2 := 64) (by kernel_rfl) (J1 := J ++ AObj.cells [.int .i64 (nth fr k).func, .int .i64 (nth fr k).pc, x1] :: J1) hF htk (by omega) (fun d hd => List.getElem?_append_left hd) (by simp) hx1 hiL1
  clear hJ1
  repeat' (first|(with_reducible first|refine bt ?_|refine bf ?_|(first|refine bc ?_ ?_|refine gc ?_ ?_|refine pc ?_ ?_)<;>intro _)|simp -implicitDefEqProofs(maxSteps:=2000000)(disch:=first|assumption|omega)[*, ])
  exact ⟨hlt, (J2, ids2, r ++ [.int .i64 (nth fr k).func, .int .i64 (nth fr k).pc, x1], .ref 3 (s.length + ((J ++ AObj.cells [.int .i64 (nth fr k).func, .int .i64 (nth fr k).pc, x1] :: J1).length + 2)) 0 (k + 1) false, s.length + ((J ++ AObj.cells [.int .i64 (nth fr k).func, .int .i64 (nth fr k).pc, x1] :: J1).length + 2)),
   by show FrmsO _ _ (fr.take (k + 1)) _ _ _ _; rw [take_succ_nth hlt]; exact hF2, by (refine Fits.of ?_ ?_; rotate_left; (repeat (first | with_reducible exact Off.refl _ _ | refine Off.upd rfl ?_ | refine Off.updO rfl ?_ | refine Off.upds rfl ?_)); simp [upd_apply, upds_cons]), by simp, rfl⟩
 ·have : k = fr.length := by omega
  subst this
  rw [List.take_of_length_le (Nat.le_refl _)] at hF
  have cF := hF.frames.cells
  obtain ⟨x1, J3, ha3, hJ3⟩ := own_nil (P := Tryz.prog) (t := 23) (t2 := 23) (sz := 1) (by_ := 8) (by kernel_rfl) rfl (by omega) (l := sk) (by unfold maxLen; omega) (by omega) (s ++ (.cells [.int .i64 st, .int .i64 on, xF, row sk, .int .i64 co] :: .cells [.int .i64 0, .int .i64 0, .nils, .nils, .int .i64 0] :: J))
  have c1 : x1.cells = [x1] ∧ x1.cellsOk = true := by rcases hJ3 with ⟨_, rfl, _⟩ | ⟨_, rfl, _⟩ <;> exact ⟨rfl, rfl⟩
  have hend := fun a' b' v => cloneT_end (t := ⟨st, on, fr, sk, co⟩) (x1 := x1) (J3 := J3) (a' := a') (b' := b') (v := v) hF (by simpa using hJ3)
  clear hJ3
  repeat' (first|(with_reducible first|refine bt ?_|refine bf ?_|(first|refine bc ?_ ?_|refine gc ?_ ?_|refine pc ?_ ?_)<;>intro _)|simp -implicitDefEqProofs(maxSteps:=2000000)(disch:=first|assumption|omega)[*, ])
theorem callT {t : Thr} {f : FuncId} {args : List LV} {s : List AObj} {v : List Nat} {K : LV → List AObj → List Nat → Prop} (h : aCalls Tryz.prog f args s v (CloneT t s v))
  (k : ∀ J ids r xF xS dF dS, (xF.cells = [xF] ∧ xF.cellsOk = true) → (xS.cells = [xS] ∧ xS.cellsOk = true) → FrmsO (s ++ J) s.length t.frames ids r xF (s.length + dF) →
   RowR (s ++ J) 1 t.stack.length (rowCs t.stack) xS (s.length + dS) → (t.stack.length ≠ 0 → ∀ id ∈ ids, id ≠ s.length + dS) → (t.frames.length ≠ 0 → t.stack.length ≠ 0 → dF ≠ dS) →
   K (.agg [.int .i64 t.state, .int .i64 t.on, xF, xS, .int .i64 t.code]) (s ++ J) v) : aCalls Tryz.prog f args s v K := by
 refine aCalls_mono h ?_
 rintro y s' v' ⟨rfl, J, ids, r, xF, xS, dF, dS, rfl, rfl, h1, h2, h3, h4⟩
 exact k J ids r xF xS dF dS h1.frames.cells h2.cells h1 h2 h3 h4

theorem jump_p {fr : List Frm} {sk : List Int} {st on co pc : Int} (hb : ThrB ⟨st, on, fr, sk, co⟩) (h0 : fr ≠ []) : PureE Tryz.prog 166 [.agg [.int .i64 st, .int .i64 on, row fr, row sk, .int .i64 co], .int .i64 pc] (.agg (jump ⟨st, on, fr, sk, co⟩ pc).lv) := by
 intro s v
 have hb' := hb
 obtain ⟨hb1, hb2, hb3⟩ := hb'
 simp only at hb1 hb2 hb3
 have hf0 : fr.length ≠ 0 := fun e => h0 (List.length_eq_zero_iff.1 e)
 refine aCalls_deep ?_
 refine aCalls_go Tryz.func166 rfl (by decide) Tryz.ntmps166 (by simp) false ?_
 have hres : Tryz.f166.results = #[.cell 4 66] := rfl
 have e1 : ((fr.length : Int) - 1).toNat = fr.length - 1 := by omega
 repeat' (first|(with_reducible first|refine bt ?_|refine bf ?_|(first|refine bc ?_ ?_|refine gc ?_ ?_|refine pc ?_ ?_)<;>intro _|refine callT (rclone_o hb) (fun J ids r xF xS dF dS cF cS hF hS hne1 hne2 => ?_))|simp -implicitDefEqProofs(maxSteps:=2000000)(disch:=first|assumption|omega)[*, ])
 simp only at hF hS hne1 hne2
 replace hF := lay_of (P := fun S b i => FrmsO S b fr ids r xF i) hF
 replace hS := lay_of (P := fun S b i => RowR S 1 sk.length (rowCs sk) xS i) hS
 replace hne1 : sk.length ≠ 0 → ∀ id ∈ ids, id ≠ s.length + (dS + 2) := fun h id hi e => hne1 h id hi (by simp; omega)
 obtain ⟨hr0, hrne, rfl, hget, hrl⟩ := hF.frames.resolve_left fun h => hf0 h.1
 have hJ : J[dF]? = some (.cells r) := by rw [layB_get] at hget; exact hget
 have hJX : ∀ X, (J ++ [X])[dF]? = some (.cells r) := fun X => by rw [List.getElem?_append_left (List.getElem?_eq_some_iff.1 hJ).1]; exact hJ
 have hJS : ∀ X o, (J ++ [X]).set dF o = J.set dF o ++ [X] := fun X o => by rw [List.set_append_left _ _ (List.getElem?_eq_some_iff.1 hJ).1]
 have hle : (fr.length - 1) * 3 + 1 + 1 ≤ r.length := by omega
 have e2 : s.length + 2 + dF = s.length + (dF + 2) := by omega
 have hb0 : (1 : Int) ≤ fr.length := by omega
 have hb0' : (fr.length : Int) - 1 < fr.length := by omega
 have hle2 : (fr.length - 1) * 3 + 1 + 1 ≤ fr.length * 3 := by omega
 have hJL : ∀ X o, (J.set dF o ++ [X])[J.length]? = some X := fun X o => by rw [List.getElem?_append_right (by simp)]; simp
 have hS' := hS
 have hF' := hF
 clear hget hS hF
 repeat' (first|(with_reducible first|refine bt ?_|refine bf ?_|(first|refine bc ?_ ?_|refine gc ?_ ?_|refine pc ?_ ?_)<;>intro _)|simp -implicitDefEqProofs(maxSteps:=2000000)(disch:=first|assumption|omega)[*, ])
 clear hJX hJS hJL
 have hdF := (List.getElem?_eq_some_iff.1 hJ).1
 have hid : ∀ id ∈ ids, s.length + 2 ≤ id ∧ id < s.length + (J.length + 2) ∧ id ≠ s.length + (dF + 2) := fun id hi => by
  have h := hF'.ids id hi
  have h2 := h.2.2 hf0
  simp only [List.length_append, List.length_cons, List.length_nil] at h
  omega
 refine thr_deep (fr := fr.set (fr.length - 1) { nth fr (fr.length - 1) with pc := pc }) (ids := ids) (iF := s.length + (dF + 2)) (iS := s.length + (dS + 2)) (FrmsV.keep (FrmsV.pc (pc := pc) (fr.length - 1) hF'.fr (by omega)) fun i hi => ?_) (fun i hi => by have := (hid i hi).1; omega) ?_ (by simp) hf0 (by omega) (hS'.keep fun h0 => ?_) (by omega)
 ·exact layB_other hdF (hid i hi).1 (hid i hi).2.1 (hid i hi).2.2
 ·rw [layB_get, List.getElem?_append_left (by simpa using hdF), List.getElem?_set_self hdF]
 ·have h1 := hS'.lt h0
  simp at h1
  exact layB_other hdF (by omega) (by omega) (by have := hne2 hf0 h0; omega)
theorem setL_p {fr : List Frm} {sk : List Int} {st on co i x : Int} (hb : ThrB ⟨st, on, fr, sk, co⟩) (h0 : fr ≠ []) (hi0 : 0 ≤ i) (hi1 : i < (nth fr (fr.length - 1)).locals.length) : PureE Tryz.prog 173 [.agg [.int .i64 st, .int .i64 on, row fr, row sk, .int .i64 co], .int .i64 i, .int .i64 x] (.agg (setL ⟨st, on, fr, sk, co⟩ i x).lv) := by
 intro s v
 have hb' := hb
 obtain ⟨hb1, hb2, hb3⟩ := hb'
 simp only at hb1 hb2 hb3
 have hf0 : fr.length ≠ 0 := fun e => h0 (List.length_eq_zero_iff.1 e)
 have hk := keep_p x
 refine aCalls_deep ?_
 unfold setL topF
 simp only
 generalize keep x = kx at *
 refine aCalls_go Tryz.func173 rfl (by decide) Tryz.ntmps173 (by simp) false ?_
 have hres : Tryz.f173.results = #[.cell 6 66] := rfl
 have e1 : ((fr.length : Int) - 1).toNat = fr.length - 1 := by omega
 repeat' (first|(with_reducible first|refine bt ?_|refine bf ?_|(first|refine bc ?_ ?_|refine gc ?_ ?_|refine pc ?_ ?_)<;>intro _|(refine dr P173 mixed ?_ ?_ ?_;kernel_rfl;kernel_rfl)|refine callT (rclone_o hb) (fun J ids r xF xS dF dS cF cS hF hS hne1 hne2 => ?_))|simp -implicitDefEqProofs(maxSteps:=2000000)(disch:=first|assumption|omega)[*, ])
 simp only at hF hS hne1 hne2
 replace hF := lay_of (P := fun S b i => FrmsO S b fr ids r xF i) hF
 replace hS := lay_of (P := fun S b i => RowR S 1 sk.length (rowCs sk) xS i) hS
 replace hne1 : sk.length ≠ 0 → ∀ id ∈ ids, id ≠ s.length + (dS + 2) := fun h id hi e => hne1 h id hi (by simp; omega)
 obtain ⟨hr0, hrne, rfl, hget, hrl⟩ := hF.frames.resolve_left fun h => hf0 h.1
 have hJ : J[dF]? = some (.cells r) := by rw [layB_get] at hget; exact hget
 have hdF := (List.getElem?_eq_some_iff.1 hJ).1
 obtain ⟨xL, idL, hidL, h3, hL⟩ := FrmsV.get (fr.length - 1) hF.fr (by omega)
 have hmem := List.mem_of_getElem? hidL
 have hlo : (nth fr (fr.length - 1)).locals.length ≠ 0 := by omega
 obtain ⟨_, hLne, rfl, hgetL, hLl⟩ := hL.resolve_left fun h => hlo h.1
 have hid : ∀ id ∈ ids, s.length + 2 ≤ id ∧ id < s.length + (J.length + 2) ∧ id ≠ s.length + (dF + 2) := fun id hi => by
  have h := hF.ids id hi
  have h2 := h.2.2 hf0
  simp only [List.length_append, List.length_cons, List.length_nil] at h
  omega
 obtain ⟨dL, rfl⟩ : ∃ d, idL = s.length + (d + 2) := ⟨idL - (s.length + 2), by have := hid _ hmem; omega⟩
 have hJL : J[dL]? = some (.cells (rowCs (nth fr (fr.length - 1)).locals)) := by rw [layB_get] at hgetL; exact hgetL
 have hdL := (List.getElem?_eq_some_iff.1 hJL).1
 have h3' := third_at h3
 have hJX : ∀ X, (J ++ [X])[dF]? = some (.cells r) := fun X => by rw [List.getElem?_append_left hdF]; exact hJ
 have hJX2 : ∀ X, (J ++ [X])[dL]? = some (.cells (rowCs (nth fr (fr.length - 1)).locals)) := fun X => by rw [List.getElem?_append_left hdL]; exact hJL
 have hJS : ∀ X o, (J ++ [X]).set dL o = J.set dL o ++ [X] := fun X o => by rw [List.set_append_left _ _ hdL]
 have hJLx : ∀ X o, (J.set dL o ++ [X])[J.length]? = some X := fun X o => by rw [List.getElem?_append_right (by simp)]; simp
 have hle : (fr.length - 1) * 3 + 2 + 1 ≤ r.length := by omega
 have hle2 : (fr.length - 1) * 3 + 2 + 1 ≤ fr.length * 3 := by omega
 have e2 : s.length + 2 + dF = s.length + (dF + 2) := by omega
 have hb0 : (1 : Int) ≤ fr.length := by omega
 have hb0' : (fr.length : Int) - 1 < fr.length := by omega
 have hS' := hS
 have hF' := hF
 have hL' := hL
 have hi2 : i.toNat + 1 ≤ (nth fr (fr.length - 1)).locals.length := by omega
 clear hget hS hF hgetL hL
 generalize hlo' : (nth fr (fr.length - 1)).locals = lo at *
 repeat' (first|(with_reducible first|refine bt ?_|refine bf ?_|(first|refine bc ?_ ?_|refine gc ?_ ?_|refine pc ?_ ?_)<;>intro _|(refine dr P173 mixed ?_ ?_ ?_;kernel_rfl;kernel_rfl)|refine callE hk ?_)|simp -implicitDefEqProofs(maxSteps:=2000000)(disch:=first|assumption|omega)[*, ])
 have hLF := (hid _ hmem).2.2
 rw [rowCs_set]
 refine thr_deep (fr := fr.set (fr.length - 1) { nth fr (fr.length - 1) with locals := lo.set i.toNat kx }) (ids := ids) (r := r) (iF := s.length + (dF + 2)) (iS := s.length + (dS + 2))
  (FrmsV.put (fr.length - 1) (s.length + (dL + 2)) hF'.fr hidL hF'.nodup (fun j hj hne => layB_other hdL (hid j hj).1 (hid j hj).2.1 hne) (by simp [hlo']) fun _ => ?_) (fun i hi => by have := (hid i hi).1; omega) ?_ (by simp) hf0 (by omega) (hS'.keep fun h0 => ?_) (by omega)
 ·rw [layB_get, List.getElem?_append_left (by simpa using hdL), List.getElem?_set_self hdL]
 ·exact (layB_other (a := .cells []) (b := .cells []) hdL (by omega) (by omega) (by omega)).trans (by rw [layB_get]; exact hJ)
 ·have h1 := hS'.lt h0
  simp at h1
  exact layB_other hdL (by omega) (by omega) (by have := hne1 h0 _ hmem; omega)
end Go.Hb
