/-
  imageShapes: the statement holds. CONDITIONS: those of the given statement (any input), none other.
-/
import Derived.Test.YtieoaonaijbijaaGreatRows
import Derived.Test.YtieoaonaijbijaaGreatG35
import Derived.Test.YtieoaonaijbijaaGreatG09
set_option linter.unusedVariables false
set_option linter.unusedSimpArgs false
namespace Go.Proofs.YtieoaonaijbijaaGreat.imageShapes
open Go.ChangeShapes Go.WideShapes Go.ChangeAt Go.RowKit
theorem own:ownKnob Tryz.prog.godebug=none:=by kernel_rfl
set_option maxRecDepth 100000 in
theorem lifted (os:Os)(started:os.Started)(H:Type)(enc:TypeId × Value→H) :
  ReturnsInHanded {} Tryz.checked os 4 .any (Rows.imageShapesSpec.pre6 enc Tryz.prog Tryz.f4 Rows.imageShapesRow.domain false) (Rows.imageShapesSpec.post enc Tryz.prog Tryz.f4 false true false false):=by
 refine returnsInHanded_of_change_sized (C:=Tryz.checked) own started (by kernel_rfl) Tryz.func4
  (ChangeSpec.witness6 (enc:=enc) (C:=Tryz.checked) false ⟨#[], #[.agg #[.slice none 0 0,.int .i64 0,.slice none 0 0,.slice none 0 0,.slice none 0 0,.slice none 0 0,.int .i64 0],.slice none 0 0,.int .i64 0,.int .i64 0,.int .i64 0],[]⟩ 8 (by kernel_rfl) (by kernel_rfl) (by kernel_rfl) (by kernel_rfl)) ?_
 intro W base args ds gs before hval hW _ hsz _
 refine Hb.zhT (tb:=4) Tryz.underlying4 (by kernel_rfl) (by kernel_rfl) (of_decide_eq_true (by kernel_rfl)) rfl (fun ds h=>?_) hW fun p hA=>?_
 ·match ds,h with
  | [_,_,_,_,_],_=>rfl
 ·rw[Tryz.params4] at hA hval hsz
  obtain⟨v0,vs0,d0,ds0,p0,q0,hargs,rfl,rfl,h0,r0⟩:=trodAll_cons hA
  obtain⟨v1,vs1,d1,ds1,p1,q1,rfl,rfl,rfl,h1,r1⟩:=trodAll_cons r0
  obtain⟨v2,vs2,d2,ds2,p2,q2,rfl,rfl,rfl,h2,r2⟩:=trodAll_cons r1
  obtain⟨v3,vs3,d3,ds3,p3,q3,rfl,rfl,rfl,h3,r3⟩:=trodAll_cons r2
  obtain⟨v4,vs4,d4,ds4,p4,q4,rfl,rfl,rfl,h4,r4⟩:=trodAll_cons r3
  obtain⟨rfl,rfl,rfl⟩:=trodAll_nil r4
  obtain rfl:args = #[v0,v1,v2,v3,v4]:=by cases args;simp_all
  obtain⟨a0,g0,e0⟩:=Hb.ziQ Hb.zdu (Hb.zcZ Tryz.underlying26 (hval 0 26 v0 rfl rfl)) h0 (Hb.uC hsz (j:=0) rfl rfl)
  obtain⟨a1,g1,e1⟩:=Hb.YA Hb.vF (Hb.zdN Tryz.underlying23 (hval 1 23 v1 rfl rfl)) h1 (Hb.uC hsz (j:=1) rfl rfl)
  obtain⟨a2,g2,e2⟩:=Hb.YA Hb.xx (Hb.Jr Tryz.underlying3 (hval 2 3 v2 rfl rfl)) h2 (Hb.uC hsz (j:=2) rfl rfl)
  obtain⟨a3,g3,e3⟩:=Hb.YA Hb.xx (Hb.Jr Tryz.underlying3 (hval 3 3 v3 rfl rfl)) h3 (Hb.uC hsz (j:=3) rfl rfl)
  obtain⟨a4,g4,e4⟩:=Hb.YA Hb.xx (Hb.Jr Tryz.underlying3 (hval 4 3 v4 rfl rfl)) h4 (Hb.uC hsz (j:=4) rfl rfl)
  refine Hb.zhV (Hb.zj (Hb.zbg g0 g1 g2 g3 [] []) fun y s v h=>h.1.symm) ⟨_,_,rfl,e0,_,_,rfl,e1,_,_,rfl,e2,_,_,rfl,e3,_,_,rfl,e4,rfl⟩
theorem j0:Hb.jf 0 Tryz.prog 4 Tryz.f4 Rows.imageShapesSpec Rows.imageShapesRow=true:=by kernel_rfl
theorem j1:Hb.jf 1 Tryz.prog 4 Tryz.f4 Rows.imageShapesSpec Rows.imageShapesRow=true:=by kernel_rfl
theorem j2:Hb.jf 2 Tryz.prog 4 Tryz.f4 Rows.imageShapesSpec Rows.imageShapesRow=true:=by kernel_rfl
theorem j3:Hb.jf 3 Tryz.prog 4 Tryz.f4 Rows.imageShapesSpec Rows.imageShapesRow=true:=by kernel_rfl
theorem j4:Hb.jf 4 Tryz.prog 4 Tryz.f4 Rows.imageShapesSpec Rows.imageShapesRow=true:=by kernel_rfl
theorem j5:Hb.jf 5 Tryz.prog 4 Tryz.f4 Rows.imageShapesSpec Rows.imageShapesRow=true:=by kernel_rfl
theorem j6:Hb.jf 6 Tryz.prog 4 Tryz.f4 Rows.imageShapesSpec Rows.imageShapesRow=true:=by kernel_rfl
theorem j7:Hb.jf 7 Tryz.prog 4 Tryz.f4 Rows.imageShapesSpec Rows.imageShapesRow=true:=by kernel_rfl
theorem j8:Hb.jf 8 Tryz.prog 4 Tryz.f4 Rows.imageShapesSpec Rows.imageShapesRow=true:=by kernel_rfl
theorem j9:Hb.jf 9 Tryz.prog 4 Tryz.f4 Rows.imageShapesSpec Rows.imageShapesRow=true:=by kernel_rfl
theorem j10:Hb.jf 10 Tryz.prog 4 Tryz.f4 Rows.imageShapesSpec Rows.imageShapesRow=true:=by kernel_rfl
theorem j11:Hb.jf 11 Tryz.prog 4 Tryz.f4 Rows.imageShapesSpec Rows.imageShapesRow=true:=by kernel_rfl
theorem j12:Hb.jf 12 Tryz.prog 4 Tryz.f4 Rows.imageShapesSpec Rows.imageShapesRow=true:=by kernel_rfl
theorem j13:Hb.jf 13 Tryz.prog 4 Tryz.f4 Rows.imageShapesSpec Rows.imageShapesRow=true:=by kernel_rfl
theorem named:Tryz.checked.prog.funcNamed Rows.imageShapesRow.func=some 4:=by kernel_rfl
theorem over:Rows.imageShapesRow.holds Tryz.pinned (OpenSpec.ofChange Rows.imageShapesSpec):=
 OpenClaim.holds_of_wide 4 Tryz.f4 rfl rfl rfl rfl rfl rfl rfl ⟨rfl,rfl,rfl,rfl,rfl⟩ rfl rfl rfl rfl rfl named Tryz.func4 (Hb.zeM j0 j1 j2 j3 j4 j5 j6 j7 j8 j9 j10 j11 j12 j13)
  (of_decide_eq_true (by kernel_rfl)) (by unfold Func.isWrapper;first|(rw[if_pos (by decide +kernel)];kernel_rfl)|(rw[if_neg (by decide +kernel)];exact⟨rfl,rfl⟩))
  (fun os started H enc _=>lifted os started H enc)
theorem proved:Rows.ImageShapesSaid:=
 over
#print axioms proved
end Go.Proofs.YtieoaonaijbijaaGreat.imageShapes
