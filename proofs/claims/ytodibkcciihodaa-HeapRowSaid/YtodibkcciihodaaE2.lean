/-
  A layer for reasoning about the program's calls, and contracts of its functions (E2). CONDITIONS: none; each theorem bears its own.
-/
import Derived.Test.YtodibkcciihodaaTy
import Derived.Shelf.SlLaysF0
import Derived.Test.YtodibkcciihodaaE1
import Derived.Shelf.SlSortCmp.WholeK
set_option linter.unusedVariables false
set_option linter.unusedSimpArgs false
section
namespace Go.Proofs
open Go.Shelf
def Try.sortTm_ren : Go.Shelf.Ren := ⟨fun | 6 => 36 | 15 => 43 | 14 => 42 | 28 => 53 | 29 => 54 | 20 => 45 | 21 => 46 | 22 => 47 | 23 => 48 | 24 => 49 | 25 => 50 | 26 => 51 | 27 => 52 | 46 => 55 | 47 => 56 | 48 => 57 | 49 => 58 | 50 => 59 | 57 => 60 | n => n, fun | 22 => 54 | 24 => 58 | 25 => 66 | 3 => 3 | 39 => 74 | 0 => 0 | 53 => 83 | 55 => 85 | 4 => 4 | 46 => 77 | 45 => 76 | 50 => 31 | 5 => 5 | 9 => 9 | 66 => 86 | 70 => 90 | 76 => 92 | 77 => 93 | n => n, fun | n => n⟩
theorem Try.sortTm : Go.Proofs.SlLaysF0.n6 Try.prog Try.sortTm_ren := {
  mixed := by kernel_rfl
  f6 := ⟨Try.f36.name, by decide, Try.func36.trans (congrArg some (by kernel_rfl))⟩
  f14 := ⟨Try.f42.name, by decide, Try.func42.trans (congrArg some (by kernel_rfl))⟩
  f15 := Try.func43.trans (congrArg some (by kernel_rfl))
  f20 := ⟨Try.f45.name, by decide, Try.func45.trans (congrArg some (by kernel_rfl))⟩
  f21 := ⟨Try.f46.name, by decide, Try.func46.trans (congrArg some (by kernel_rfl))⟩
  f22 := ⟨Try.f47.name, by decide, Try.func47.trans (congrArg some (by kernel_rfl))⟩
  f23 := ⟨Try.f48.name, by decide, Try.func48.trans (congrArg some (by kernel_rfl))⟩
  f24 := ⟨Try.f49.name, by decide, Try.func49.trans (congrArg some (by kernel_rfl))⟩
  f25 := ⟨Try.f50.name, by decide, Try.func50.trans (congrArg some (by kernel_rfl))⟩
  f26 := ⟨Try.f51.name, by decide, Try.func51.trans (congrArg some (by kernel_rfl))⟩
  f27 := ⟨Try.f52.name, by decide, Try.func52.trans (congrArg some (by kernel_rfl))⟩
  f28 := Try.func53.trans (congrArg some (by kernel_rfl))
  f29 := Try.func54.trans (congrArg some (by kernel_rfl))
  f46 := ⟨Try.f55.name, by decide, Try.func55.trans (congrArg some (by kernel_rfl))⟩
  f47 := Try.func56.trans (congrArg some (by kernel_rfl))
  f48 := Try.func57.trans (congrArg some (by kernel_rfl))
  f49 := ⟨Try.f58.name, by decide, Try.func58.trans (congrArg some (by kernel_rfl))⟩
  f50 := ⟨Try.f59.name, by decide, Try.func59.trans (congrArg some (by kernel_rfl))⟩
  f57 := ⟨Try.f60.name, by decide, Try.func60.trans (congrArg some (by kernel_rfl))⟩
  t0 := Try.underlying0
  a0 := Try.isAgg0
  z0 := Try.sizeOf0
  v0 := Try.zeroValue0
  t3 := Try.underlying3
  a3 := Try.isAgg3
  z3 := Try.sizeOf3
  v3 := Try.zeroValue3
  t4 := Try.underlying4
  a4 := Try.isAgg4
  z4 := Try.sizeOf4
  v4 := Try.zeroValue4
  t5 := Try.underlying5
  a5 := Try.isAgg5
  z5 := Try.sizeOf5
  v5 := Try.zeroValue5
  t9 := Try.underlying9
  a9 := Try.isAgg9
  z9 := Try.sizeOf9
  v9 := Try.zeroValue9
  t22 := Try.underlying54
  a22 := Try.isAgg54
  z22 := Try.sizeOf54
  v22 := Try.zeroValue54
  t25 := Try.underlying66
  a25 := Try.isAgg66
  z25 := Try.sizeOf66
  v25 := Try.zeroValue66
  t39 := Try.underlying74
  a39 := Try.isAgg74
  z39 := Try.sizeOf74
  v39 := Try.zeroValue74
  t45 := Try.underlying76
  a45 := Try.isAgg76
  z45 := Try.sizeOf76
  v45 := Try.zeroValue76
  t46 := Try.underlying77
  a46 := Try.isAgg77
  z46 := Try.sizeOf77
  v46 := Try.zeroValue77
  t50 := Try.underlying31
  a50 := Try.isAgg31
  z50 := Try.sizeOf31
  v50 := Try.zeroValue31
  t53 := Try.underlying83
  a53 := Try.isAgg83
  z53 := Try.sizeOf83
  v53 := Try.zeroValue83
  t55 := Try.underlying85
  a55 := Try.isAgg85
  z55 := Try.sizeOf85
  v55 := Try.zeroValue85
  t66 := Try.underlying86
  a66 := Try.isAgg86
  z66 := Try.sizeOf86
  v66 := Try.zeroValue86
  t70 := Try.underlying90
  a70 := Try.isAgg90
  z70 := Try.sizeOf90
  v70 := Try.zeroValue90
  t76 := Try.underlying92
  a76 := Try.isAgg92
  z76 := Try.sizeOf92
  v76 := Try.zeroValue92
  t77 := Try.underlying93
  a77 := Try.isAgg93
  z77 := Try.sizeOf93
  v77 := Try.zeroValue93 }
end Go.Proofs
end

section
namespace Go.Hb
open Go Go.Proofs Go.RowKit Go.Sort
attribute [-simp] aC aL aOper aThen aInBlock aIf aPlan aAppend

theorem sortOk : SortOk := fun blk cap d w hH hblk hsz =>
  AnyQ.slices_SortFunc Try.sortTm 2 Try.isAgg58 Try.sizeOf58 encT (fun _ => rfl) enc_one cmp2 swo 32 #[] blk 0 cap d w (enters_of Try.func32 (by kernel_rfl) rfl) (cmpLays blk 0 d.size w) hH hblk hsz

theorem bitsLen_w (n : Nat) (h : n < 1000000) (w : World) : Calls Try.prog 43 #[.int .u64 (n : Int)] w fun e w' => e = .returned (.int .i64 (Lib.bitLen n : Nat)) ∧ w' = w := by
  have hh := Any.bits_Len (SlLaysF0.n15.bits (P := Try.prog) (ρ := Try.sortTm_ren) { Try.sortTm with }) (n : Int) w (by omega) (by omega)
  rwa [Int.toNat_natCast] at hh
end Go.Hb
end

section
namespace Go.Hb
open Go Go.Proofs Go.RowKit Go.Sort
attribute [-simp] aC aL aOper aThen aInBlock aIf aPlan aAppend

section
variable {s : List AObj} {v : List Nat} {ts : List Tm}
theorem bitsLen_c {n : Nat} (h : n < 1000000) : aCalls Try.prog 43 [.int .u64 n] s v fun y s' v' => y = .int .i64 (Lib.bitLen n : Nat) ∧ s = s' ∧ v = v' := by
  refine ⟨by kernel_rfl, fun C vs hok hτ hargs => ?_⟩
  obtain ⟨v0, r0, e0, h0, h1⟩ := hargs
  simp only [RelV, RelVs] at h0 h1
  subst h0; subst h1
  have hvs : vs = #[.int .u64 (n : Int)] := by cases vs; simp at e0; simp [e0]
  subst hvs
  refine (bitsLen_w n h C.w).mono ?_
  rintro e w' ⟨rfl, rfl⟩
  exact ⟨C, _, _, s, v, rfl, rfl, Ctx.le.refl C, hok, hτ, by simp only [RelV], rfl, rfl, rfl⟩

theorem ins_nil : aCalls Try.prog 45 [.nils, .int .i64 0, .int .i64 0, .fn (.func 32) [] []] s v fun y s' v' => y = .tup [] ∧ s = s' ∧ v = v' := by
  refine aCalls_of Try.func45 rfl (by decide) (by simp [Try.ntmps45]) false ?_
  have hres : Try.f45.results = #[] := rfl
  simp [Try.ntmps45]
  refine aW_forC false 0 (fun k st => st.t 8 = .int .i64 1 ∧ st.t 2 = .int .i64 0 ∧ s = st.s ∧ v = st.v) ?_ ?_
  · exact ⟨0, Nat.zero_le _, by simp [upd_apply], by simp [upd_apply], rfl, rfl⟩
  rintro k t1 s1 v1 hk ⟨h8, h2, rfl, rfl⟩
  simp only at h8 h2
  simp [h8, h2, hres]

theorem pdq_nil {lim : Int} : aCalls Try.prog 42 [.nils, .int .i64 0, .int .i64 0, .int .i64 lim, .fn (.func 32) [] []] s v fun y s' v' => y = .tup [] ∧ s = s' ∧ v = v' := by
  refine aCalls_of Try.func42 rfl (by decide) (by simp [Try.ntmps42]) false ?_
  have hres : Try.f42.results = #[] := rfl
  simp [Try.ntmps42]
  refine aW_forC false 0 (fun k st => st.t 0 = .nils ∧ st.t 1 = .int .i64 0 ∧ st.t 2 = .int .i64 0 ∧ st.t 4 = .fn (.func 32) [] [] ∧ s = st.s ∧ v = st.v) ?_ ?_
  · exact ⟨0, Nat.zero_le _, by simp [upd_apply], by simp [upd_apply], by simp [upd_apply], by simp [upd_apply], rfl, rfl⟩
  rintro k t1 s1 v1 hk ⟨h0, h1, h2, h4, rfl, rfl⟩
  simp only at h0 h1 h2 h4
  have w0 : IntKind.i64.wrap 0 = 0 := rfl
  simp [h0, h1, h2, h4, w0]
  refine aCalls_mono ins_nil ?_
  rintro _ _ _ ⟨rfl, rfl, rfl⟩
  simp [hres]

theorem sortFunc_nil : aCalls Try.prog 36 [.nils, .fn (.func 32) [] []] s v fun y s' v' => y = .tup [] ∧ s = s' ∧ v = v' := by
  refine aCalls_of Try.func36 rfl (by decide) (by simp [Try.ntmps36]) false ?_
  have hres : Try.f36.results = #[] := rfl
  have w0 : IntKind.u64.wrap 0 = 0 := rfl
  simp [Try.ntmps36, w0]
  refine aCalls_mono (bitsLen_c (n := 0) (by omega)) ?_
  rintro _ _ _ ⟨rfl, rfl, rfl⟩
  simp
  refine aCalls_mono pdq_nil ?_
  rintro _ _ _ ⟨rfl, rfl, rfl⟩
  simp [hres]

def SPost2 (s : List AObj) (ts : List Tm) (v : List Nat) (y : LV) (s' : List AObj) (v' : List Nat) : Prop := ∃ ts' : List Tm, ts'.Perm ts ∧ ts'.Pairwise le2 ∧ Own s ts' y s' ∧ KeepS s s' ∧ v = v'
theorem sortedFunc_c {i0 : Nat} {sl : LV} (hn : ts.length ≤ 100000) (h1 : s[i0]? = some (.cells [sl])) (h2 : Row sl ts s) :
    aCalls Try.prog 30 [.fn (.func 37) [] [.ptr i0 0], .fn (.func 32) [] []] s v (SPost2 s ts v) := by
  refine aCalls_of Try.func30 rfl (by decide) (by simp [Try.ntmps30]) false ?_
  have hres : Try.f30.results = #[.tmp 4] := rfl
  simp [Try.ntmps30]
  refine aCalls_mono (collect_c (v := v) hn h1 h2) ?_
  rintro y s1 _ ⟨hO, hK, rfl⟩
  rcases hO with ⟨rfl, rfl⟩ | ⟨id, rfl, hid, hne, gid⟩
  · simp
    refine aCalls_mono sortFunc_nil ?_
    rintro _ _ _ ⟨rfl, rfl, rfl⟩
    simp [hres]
    exact ⟨[], .refl _, .nil, .inl ⟨rfl, rfl⟩, hK, rfl⟩
  · simp
    refine aCalls_mono (sortFunc_c (v := v) sortOk gid hne hn) ?_
    rintro _ s2 _ ⟨ts', p1, p2, rfl, rfl, rfl⟩
    simp [hres]
    have hidl := (List.getElem?_eq_some_iff.1 gid).1
    have hne' : ts' ≠ [] := fun e => by subst e; exact hne p1.symm.eq_nil
    refine ⟨ts', p1, p2, .inr ⟨id, by rw [p1.length_eq], hid, hne', List.getElem?_set_self hidl⟩, ⟨by rw [List.length_set]; exact hK.1, fun i hi => by rw [List.getElem?_set_ne (by omega)]; exact hK.2 i hi⟩, rfl⟩

/-- The timers in their row are the document's. -/
theorem sorted_is {R ts' : List Tm} (hs : R.Pairwise fun a b => lt2 a b = true) (hk : (R.map Prod.snd).Nodup) (hp : ts'.Perm R) (hl : ts'.Pairwise le2) : ts' = R := by
  have hk' : (ts'.map Prod.snd).Nodup := (hp.map Prod.snd).nodup_iff.2 hk
  refine sorted_unique ?_ hs fun t => hp.mem_iff
  rw [List.pairwise_iff_getElem] at hl ⊢
  intro i j hi hj hij
  refine lt2_of (hl i j hi hj hij) fun e => ?_
  have h2 := List.pairwise_iff_getElem.1 hk' i j (by simpa using hi) (by simpa using hj) hij
  simp at h2
  exact h2 e

def ListPost (R : List Tm) (s : List AObj) (v : List Nat) (y : LV) (s' : List AObj) (v' : List Nat) : Prop := y = grI v R.length (ks R) ∧ KeepS s s' ∧ v' = grT v R.length

set_option maxRecDepth 10000 in
set_option maxHeartbeats 8000000 in
theorem list_c {hp mid : Nat} {lo : Option Nat} {st : Int} {R : List Tm} (H : HT s hp mid lo ts st) (G : Good ts R) (hn : R.length ≤ 1000) :
    aCalls Try.prog 24 [.ptr hp 0] s v fun y s' v' => encI (ks R) = y ∧ s = s' ∧ v <+: v' := by
  refine aCalls_weak (aCalls_drop (aCalls_mono (R := ListPost R s v) ?_ ?_))
  rotate_left
  · rintro y s' v' ⟨rfl, hK, rfl⟩
    refine ⟨s, s'.drop s.length, ?_, rfl, grV_under _ _ _ _ _ _ ?_, fun i o ho => .inl ho, _, s, grI_weak _ _ _ (fun h => by rw [List.length_eq_zero_iff.1 h]; rfl), WeakS.refl _, rfl, rfl, grT_pre _ _⟩
    · apply List.ext_getElem?
      intro i
      by_cases hi : i < s.length
      · rw [List.getElem?_append_left hi]; exact hK.2 i hi
      · rw [List.getElem?_append_right (by omega), List.getElem?_drop, show s.length + (i - s.length) = i by omega]
    · have : ∀ l : List Int, undersB s.length (l.map (.int .i64)) = true := fun l => by
        induction l with
        | nil => rfl
        | cons a l ih => simpa [undersB, LV.under] using ih
      exact this _
  refine aCalls_of Try.func24 rfl (by decide) (by simp [Try.ntmps24]) false ?_
  have hres : Try.f24.results = #[.tmp 2] := rfl
  have hrow : ∃ sl, s[hp]? = some (.cells [sl, .mapr mid, .int .i64 st]) ∧ Row sl ts s := by
    cases lo with
    | none => obtain ⟨rfl, h1, h2, h3⟩ := H; exact ⟨_, h1, .inl ⟨rfl, rfl⟩⟩
    | some l => obtain ⟨r, f, h, hI⟩ := H; exact ⟨_, h.hh, .inr ⟨l, r, rfl, h.hl⟩⟩
  obtain ⟨sl, g1, g2⟩ := hrow
  have hlen := G.len
  simp [Try.ntmps24, g1]
  refine aCalls_mono (values_c (v := v) g2) ?_
  rintro _ _ _ ⟨rfl, rfl, rfl⟩
  simp
  have hK0 : KeepS s (s ++ [.cells [sl]]) := ⟨by simp, fun i hi => List.getElem?_append_left hi⟩
  refine aCalls_mono (sortedFunc_c (v := v) (ts := ts) (sl := sl) (by omega) (by simp) (g2.keep hK0)) ?_
  rintro y s1 _ ⟨ts', p1, p2, hO, hK1, rfl⟩
  have e := sorted_is G.sorted G.keys (p1.trans G.perm) p2
  subst e
  have hK : KeepS s s1 := ⟨Nat.le_trans hK0.1 hK1.1, fun i hi => (hK1.2 i (by simp; omega)).trans (hK0.2 i hi)⟩
  rcases hO with ⟨rfl, rfl⟩ | ⟨id, rfl, hid, hne, gid⟩
  · simp
    refine aW_forC false 0 (fun k st => st.t 3 = .nils ∧ st.t 12 = .int .i64 0 ∧ st.t 13 = .int .i64 0 ∧ s1 = st.s ∧ v = st.v) ?_ ?_
    · exact ⟨0, Nat.zero_le _, by simp [upd_apply], by simp [upd_apply], by simp [upd_apply], rfl, rfl⟩
    rintro k t1 s2 v1 hk ⟨h3, h12, h13, rfl, rfl⟩
    simp only at h3 h12 h13
    simp [h3, h12, h13, hres]
    exact ⟨rfl, hK, rfl⟩
  · simp
    refine aW_forC false ts'.length (fun k st => st.t 3 = grI v k (ks (ts'.take k)) ∧ st.v = grT v k ∧ st.t 11 = .ref 2 id 0 ts'.length false ∧ st.t 12 = .int .i64 ts'.length ∧ st.t 13 = .int .i64 k ∧ KeepS s st.s ∧ st.s[id]? = some (.cells (flat ts'))) ?_ ?_
    · exact ⟨0, Nat.zero_le _, by simp [upd_apply, grI, grV], rfl, by simp [upd_apply], by simp [upd_apply], by simp [upd_apply], hK, gid⟩
    rintro k t1 s2 v1 hk ⟨h3, hv, h11, h12, h13, hK2, gid2⟩
    simp only at h3 hv h11 h12 h13 hK2 gid2
    subst hv
    by_cases hlt : k < ts'.length
    · have hw := wrap_succ (n := 1000) (k := k) (by omega) (by omega)
      have d1 := flat_drop ts' k hlt []
      rw [List.append_nil] at d1
      have hfl := flat_len ts'
      have t1 : ∀ (t : Tm) X, List.take 2 (tc t ++ X) = tc t := fun t X => rfl
      have bb : k * 2 + 2 ≤ ts'.length * 2 := by omega
      have hkl : (ks (ts'.take k)).length = k := by rw [ks_len, List.length_take]; omega
      have ha := fun r s' => app_ints (v := v) (c := k) (l := ks (ts'.take k)) (a := ts'[k].2) (r := r) (s := s') (by omega) (fun h => by subst h; simp [ks])
      have ek : ks (ts'.take (k + 1)) = ks (ts'.take k) ++ [ts'[k].2] := by
        unfold ks; rw [List.take_add_one, List.getElem?_eq_getElem hlt, List.map_append]; rfl
      simp [h11, h12, h13, hlt, gid2, d1, hfl, t1, bb, get_app, get_app0, tc, h3, ha, hw]
      refine Hb.hid ⟨hlt, by rw [ek]; simp [upd_apply], rfl, by simp [upd_apply, h11], by simp [upd_apply, h12], by simp [upd_apply], ⟨by have := hK2.1; simp; omega, fun i hi => by rw [List.getElem?_append_left (by have := hK2.1; omega)]; exact hK2.2 i hi⟩, ?_⟩
      rw [List.getElem?_append_left (List.getElem?_eq_some_iff.1 gid2).1]; exact gid2
    · have hkk : k = ts'.length := by omega
      subst hkk
      rw [List.take_length] at h3
      simp [h12, h13, h3, hres]
      exact ⟨rfl, hK2, rfl⟩
end
end Go.Hb
end

