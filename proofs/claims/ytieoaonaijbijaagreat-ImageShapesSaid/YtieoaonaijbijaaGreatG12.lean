/-
  A layer for reasoning about the program's calls, and contracts of its functions. CONDITIONS: none; each theorem bears its own.
-/
import Derived.Test.YtieoaonaijbijaaGreatG11
import Derived.Test.YtieoaonaijbijaaGreatG05
set_option linter.unusedVariables false
set_option linter.unusedSimpArgs false
section
namespace Go.Hb
open Go Go.Proofs Go.RowKit
set_option maxRecDepth 100000
set_option maxHeartbeats 800000
attribute [-simp] aC aL xq yp zE aIf yr zR aLen zt ya zQ zP lBr aq yP aev zk zw zF zI LV.cells LV.cellsOk getElem?_pos getElem?_neg
theorem yw {n m:Int}(hn:I64 n)(hm:0<m):zM Tryz.prog 21 [.int .i64 n,.int .i64 m] (.int .i64 (zA n m)):=by
 obtain⟨h1,h2⟩:=hn
 refine .of fun s v=>?_
 refine ac0 Tryz.func21 Tryz.ntmps21 ?_
 have hrs:Tryz.f21.results = #[.tmp 4]:=rfl
 have:m≠0:=by omega
 repeat' (first|(with_reducible first|refine uk ?_|refine wk ?_ ?_<;>intro _)|simp -implicitDefEqProofs(disch:=first|assumption|omega)[*])
 ·refine zn.eq ?_ (by simp)
  rename_i h
  simp only[zA,if_pos h]
  rw[← Int.neg_tmod,Int.tmod_eq_emod_of_nonneg (by omega)]
 ·refine zn.eq ?_ (by simp)
  rename_i h
  simp only[zA,if_neg h]
  rw[Int.tmod_eq_emod_of_nonneg (by omega)]
theorem zim (op:Int):zM Tryz.prog 197 [.int .i64 op] (.bool (asks op)):=by
 refine .of fun s v=>?_
 refine ac0 Tryz.func197 Tryz.ntmps197 ?_
 have hrs:Tryz.f197.results = #[.tmp 2]:=rfl
 repeat' (first|(with_reducible first|refine uk ?_|refine wk ?_ ?_<;>intro _)|simp -implicitDefEqProofs(disch:=first|assumption|omega)[*])
 all_goals exact zn.eq (by simp[asks, *]) (by simp)
theorem ziE {xf xc xs xh xo xl:LV}{fs co se ch cho cl:Nat}(h1:aLen Tryz.prog 22 xf=some (.int .i64 fs))(h2:aLen Tryz.prog 23 xc=some (.int .i64 co))(h3:aLen Tryz.prog 23 xs=some (.int .i64 se))
  (h4:aLen Tryz.prog 23 xh=some (.int .i64 ch)) (h5:aLen Tryz.prog 24 xo=some (.int .i64 cho)) (h6:aLen Tryz.prog 132 xl=some (.int .i64 cl)) (hb:cl<4611686018427387904) (mu th lo op:Int) :
  zM Tryz.prog 196 [.agg [xf,.int .i64 mu,xc,xs,xh,xo,.int .i64 th],.agg [.int .i64 lo,xl],.int .i64 op] (.int .i64 (vZ fs mu co se ch cho lo cl op)):=by
 refine .of fun s v=>?_
 refine ac0 Tryz.func196 Tryz.ntmps196 ?_
 have hrs:Tryz.f196.results = #[.tmp 6]:=rfl
 repeat' (first|(with_reducible first|refine uk ?_|refine wk ?_ ?_<;>intro _)|simp -implicitDefEqProofs(disch:=first|assumption|omega)[*])
 all_goals exact zn.eqat (by simp[vZ, *]) (by simp)
theorem zgn {fs:List Fn_}{mu th lo op:Int}{co se ch:List Int}{cho:List (List Int)}{cl:List Ins}(hb:cl.length<4611686018427387904) :
  zM Tryz.prog 196 [.agg [row fs,.int .i64 mu,row co,row se,row ch,row cho,.int .i64 th],.agg [.int .i64 lo,row cl],.int .i64 op] (.int .i64 (most ⟨fs,mu,co,se,ch,cho,th⟩ ⟨lo,cl⟩ op)):=
 ziE (xf:=row fs) (xc:=row co) (xs:=row se) (xh:=row ch) (xo:=row cho) (xl:=row cl) (fs:=fs.length) (co:=co.length) (se:=se.length) (ch:=ch.length) (cho:=cho.length) (cl:=cl.length) (by simp) (by simp) (by simp) (by simp) (by simp) (by simp) hb mu th lo op
theorem zjX {fs:List Fn_}{mu th lo op a:Int}{co se ch:List Int}{cho:List (List Int)}{cl:List Ins}(hb:cl.length<4611686018427387904) :
  zM Tryz.prog 111 [.agg [row fs,.int .i64 mu,row co,row se,row ch,row cho,.int .i64 th],.agg [.int .i64 lo,row cl],.agg [.int .i64 op,.int .i64 a]] (.bool (mayI ⟨fs,mu,co,se,ch,cho,th⟩ ⟨lo,cl⟩ ⟨op,a⟩)):=by
 refine .of fun s v=>?_
 refine ac0 Tryz.func111 Tryz.ntmps111 ?_
 have hrs:Tryz.f111.results = #[.tmp 6]:=rfl
 cases ha:asks op
 all_goals
  repeat' (first|(with_reducible first|refine uk ?_|refine wk ?_ ?_<;>intro _|(refine dr P111 mixed ?_ ?_ ?_;kernel_rfl;kernel_rfl)|refine zc (zim _) ?_|refine zc (zgn hb) ?_)|simp -implicitDefEqProofs(disch:=first|assumption|omega)[*])
 all_goals first|(first|(exfalso;omega)|((try subst_vars);(first|refine zn.eq ?_ (by simp)|refine zn.eqat ?_ (by simp));(first|with_reducible rfl|(simp[*,mayI];done)|(simp[*,mayI];omega)|(simp only[LV.bool.injEq];rw[Bool.eq_iff_iff];simp[*,mayI];done)|(simp only[LV.bool.injEq];rw[Bool.eq_iff_iff];simp[*,mayI];omega)|(simp only[LV.bool.injEq];rw[Bool.eq_iff_iff];simp (disch:=omega) only[if_pos,if_neg,if_true,if_false, *,mayI];simp<;>omega)|(simp only[LV.bool.injEq,Bool.and_eq_false_imp,Bool.and_eq_true,decide_eq_true_eq];intros;exfalso;omega)|(simp only[LV.bool.injEq,Bool.and_eq_false_imp,Bool.and_eq_true,decide_eq_true_eq];intros;simp_all;done))))
theorem zhM {l:List Int}{to:Int}(hb:l.length≤9223372036854775807):zM Tryz.prog 109 [row l,.int .i64 to] (.bool (yf l to)):=by
 refine .of fun s v=>?_
 refine ac0 Tryz.func109 Tryz.ntmps109 ?_
 have hrs:Tryz.f109.results = #[.tmp 4]:=rfl
 repeat' (first|(with_reducible first|refine uk ?_|refine wk ?_ ?_<;>intro _)|simp -implicitDefEqProofs(disch:=first|assumption|omega)[*])
 refine zC (β:=Unit) false l.length (fun k _=>yf l to=yf (l.drop k) to) (fun k _=>[(5,.int .i64 k),(6,.any),(7,.any),(8,.any),(9,.any),(12,.any),(13,.any),(14,.any),(15,.any),(16,.any),(17,.any),(18,.any),(19,.any),(20,.any),(21,.any),(22,.any),(23,.any),(24,.any),(4,.any),(10,.any),(11,.any)]) (fun _ _=>s) (fun _ _=>v) ?_ ?_
 ·exact⟨(),by simp,fz0,rfl,rfl⟩
 ·intro k _ hk hI
  by_cases hlt:k<l.length
  ·have hd:yf (l.drop k) to=(decide (0≤nth l k) && decide (nth l k≤to) && yf (l.drop (k+1)) to):=by
    rw[List.drop_eq_getElem_cons hlt,zK hlt];rfl
   repeat' (first|(with_reducible first|refine uk ?_|refine wk ?_ ?_<;>intro _)|simp -implicitDefEqProofs(disch:=first|assumption|omega)[*])
   ·(first|(exfalso;omega)|((try subst_vars);(first|refine zn.eq ?_ (by simp)|refine zn.eqat ?_ (by simp));(first|with_reducible rfl|(simp[*, ];done)|(simp[*, ];omega)|(simp only[LV.bool.injEq];rw[Bool.eq_iff_iff];simp[*, ];done)|(simp only[LV.bool.injEq];rw[Bool.eq_iff_iff];simp[*, ];omega)|(simp only[LV.bool.injEq];rw[Bool.eq_iff_iff];simp (disch:=omega) only[if_pos,if_neg,if_true,if_false, *, ];simp<;>omega)|(simp only[LV.bool.injEq,Bool.and_eq_false_imp,Bool.and_eq_true,decide_eq_true_eq];intros;exfalso;omega)|(simp only[LV.bool.injEq,Bool.and_eq_false_imp,Bool.and_eq_true,decide_eq_true_eq];intros;simp_all;done))))
   ·refine⟨hlt,(),(by first|(simp[*, ];done)|(simp[*, ];omega)),?_,rfl,rfl⟩
    (refine Fits.of ?_ ?_;rotate_left;(repeat (first|with_reducible exact Off.refl _ _|refine Off.upd rfl ?_|refine Off.updO rfl ?_|refine Off.upds rfl ?_));simp[zh,zu])
   ·(first|(exfalso;omega)|((try subst_vars);(first|refine zn.eq ?_ (by simp)|refine zn.eqat ?_ (by simp));(first|with_reducible rfl|(simp[*, ];done)|(simp[*, ];omega)|(simp only[LV.bool.injEq];rw[Bool.eq_iff_iff];simp[*, ];done)|(simp only[LV.bool.injEq];rw[Bool.eq_iff_iff];simp[*, ];omega)|(simp only[LV.bool.injEq];rw[Bool.eq_iff_iff];simp (disch:=omega) only[if_pos,if_neg,if_true,if_false, *, ];simp<;>omega)|(simp only[LV.bool.injEq,Bool.and_eq_false_imp,Bool.and_eq_true,decide_eq_true_eq];intros;exfalso;omega)|(simp only[LV.bool.injEq,Bool.and_eq_false_imp,Bool.and_eq_true,decide_eq_true_eq];intros;simp_all;done))))
  ·have hkk:k=l.length:=by omega
   subst hkk
   repeat' (first|(with_reducible first|refine uk ?_|refine wk ?_ ?_<;>intro _)|simp -implicitDefEqProofs(disch:=first|assumption|omega)[*])
   (first|(exfalso;omega)|((try subst_vars);(first|refine zn.eq ?_ (by simp)|refine zn.eqat ?_ (by simp));(first|with_reducible rfl|(simp[*,yf];done)|(simp[*,yf];omega)|(simp only[LV.bool.injEq];rw[Bool.eq_iff_iff];simp[*,yf];done)|(simp only[LV.bool.injEq];rw[Bool.eq_iff_iff];simp[*,yf];omega)|(simp only[LV.bool.injEq];rw[Bool.eq_iff_iff];simp (disch:=omega) only[if_pos,if_neg,if_true,if_false, *,yf];simp<;>omega)|(simp only[LV.bool.injEq,Bool.and_eq_false_imp,Bool.and_eq_true,decide_eq_true_eq];intros;exfalso;omega)|(simp only[LV.bool.injEq,Bool.and_eq_false_imp,Bool.and_eq_true,decide_eq_true_eq];intros;simp_all;done))))
theorem zdv {l:List Int}{i:Nat}(h:i<l.length):(l.take (i+1)).Nodup↔(l.take i).Nodup∧∀ k,k<i→nth l i≠nth l k:=by
 rw[za h,List.nodup_append]
 constructor
 ·rintro⟨h1,_,h3⟩
  refine⟨h1,fun k hk e=>?_⟩
  have hk':k<l.length:=by omega
  refine h3 (nth l k) ?_ (nth l i) (by simp) e.symm
  rw[zK hk']
  exact List.mem_take_iff_getElem.2 ⟨k,by omega,rfl⟩
 ·rintro⟨h1,h2⟩
  refine⟨h1,by simp,fun a ha b hb=>?_⟩
  simp at hb;subst hb
  obtain⟨k,hk,rfl⟩:=List.mem_take_iff_getElem.1 ha
  intro e
  refine h2 k (by omega) ?_
  rw[zK (l:=l) (i:=k) (by omega)];exact e.symm
theorem zgI {xf xc xs xo:LV}{mu th:Int}{ch l:List Int}(hb:l.length≤9223372036854775807)(hc:ch.length≤9223372036854775807) :
  zM Tryz.prog 110 [.agg [xf,.int .i64 mu,xc,xs,row ch,xo,.int .i64 th],row l] (.bool (yf l (ch.length-1) && decide l.Nodup && decide (1≤l.length) && decide (l.length≤8))):=by
 refine .of fun s v=>?_
 refine ac0 Tryz.func110 Tryz.ntmps110 ?_
 have hrs:Tryz.f110.results = #[.tmp 4]:=rfl
 repeat' (first|(with_reducible first|refine uk ?_|refine wk ?_ ?_<;>intro _|(refine dr P110 mixed ?_ ?_ ?_;kernel_rfl;kernel_rfl)|refine zc (zhM hb) ?_)|simp -implicitDefEqProofs(disch:=first|assumption|omega)[*])
 refine zC (β:=Unit) false l.length (fun k _=>True) (fun k _=>[(5,.bool (yf l (ch.length-1) && decide (l.take k).Nodup)),(6,.int .i64 k),(14,.any),(15,.any),(16,.any),(17,.any),(7,.any),(20,.any),(21,.any),(22,.any),(25,.any),(26,.any),(27,.any),(28,.any),(29,.any),(30,.any),(31,.any),(32,.any),(33,.any),(34,.any),(35,.any),(36,.any),(23,.any),(24,.any),(18,.any),(19,.any)]) (fun _ _=>s++[.cells [xf,.int .i64 mu,xc,xs,row ch,xo,.int .i64 th]]) (fun _ _=>v) ?_ ?_
 ·exact⟨(),by simp,fz0,rfl,rfl⟩
 intro k _ hk _
 by_cases hlt:k<l.length
 ·have hn:=zdv hlt
  repeat' (first|(with_reducible first|refine uk ?_|refine wk ?_ ?_<;>intro _|(refine dr P110 mixed ?_ ?_ ?_;kernel_rfl;kernel_rfl))|simp -implicitDefEqProofs(disch:=first|assumption|omega)[*])
  refine yW (β:=Bool) false k (fun j b=>(yf l (ch.length-1) && decide ((l.take k).Nodup∧∀ i,i<j→nth l k≠nth l i))=b) (fun j b=>[(5,.bool b),(7,.int .i64 j),(20,.any),(21,.any),(22,.any),(25,.any),(26,.any),(27,.any),(28,.any),(29,.any),(30,.any),(31,.any),(32,.any),(33,.any),(34,.any),(35,.any),(36,.any),(23,.any),(24,.any)]) (fun _ _=>s++[.cells [xf,.int .i64 mu,xc,xs,row ch,xo,.int .i64 th]]) (fun _ _=>v) ?_ ?_
  ·exact⟨_,rfl,fz0,rfl,rfl⟩
  intro j b hj hb'
  by_cases hltj:j<k
  ·have hs:(∀ i,i<j+1→nth l k≠nth l i)↔(∀ i,i<j→nth l k≠nth l i)∧nth l k≠nth l j:=Nat.forall_lt_succ_right
   cases b
   all_goals
    repeat' (first|(with_reducible first|refine uk ?_|refine wk ?_ ?_<;>intro _|(refine dr P110 mixed ?_ ?_ ?_;kernel_rfl;kernel_rfl))|simp -implicitDefEqProofs(disch:=first|assumption|omega)[*])
   ·refine⟨hltj,false,?_,fz,rfl,rfl⟩
    simp only[Nat.forall_lt_succ_right];simp at hb' ⊢;grind
   ·refine⟨hltj, !decide (nth l k=nth l j),?_,fz,rfl,rfl⟩
    simp only[Nat.forall_lt_succ_right];simp at hb' ⊢;grind
  ·have:j=k:=by omega
   subst this
   repeat' (first|(with_reducible first|refine uk ?_|refine wk ?_ ?_<;>intro _|(refine dr P110 mixed ?_ ?_ ?_;kernel_rfl;kernel_rfl))|simp -implicitDefEqProofs(disch:=first|assumption|omega)[*])
   refine⟨hlt,(),trivial,?_,rfl,rfl⟩
   (refine Fits.of ?_ ?_;rotate_left;(repeat (first|with_reducible exact Off.refl _ _|refine Off.upd rfl ?_|refine Off.updO rfl ?_|refine Off.upds rfl ?_));simp[zh,zu])
   simp only[hn];exact hb'.symm
 ·have:k=l.length:=by omega
  subst this
  repeat' (first|(with_reducible first|refine uk ?_|refine wk ?_ ?_<;>intro _|(refine dr P110 mixed ?_ ?_ ?_;kernel_rfl;kernel_rfl))|simp -implicitDefEqProofs(disch:=first|assumption|omega)[*])
  all_goals first|(first|(exfalso;omega)|((try subst_vars);(first|refine zn.eq ?_ (by simp)|refine zn.eqat ?_ (by simp));(first|with_reducible rfl|(simp[*, ];done)|(simp[*, ];omega)|(simp only[LV.bool.injEq];rw[Bool.eq_iff_iff];simp[*, ];done)|(simp only[LV.bool.injEq];rw[Bool.eq_iff_iff];simp[*, ];omega)|(simp only[LV.bool.injEq];rw[Bool.eq_iff_iff];simp (disch:=omega) only[if_pos,if_neg,if_true,if_false, *, ];simp<;>omega)|(simp only[LV.bool.injEq,Bool.and_eq_false_imp,Bool.and_eq_true,decide_eq_true_eq];intros;exfalso;omega)|(simp only[LV.bool.injEq,Bool.and_eq_false_imp,Bool.and_eq_true,decide_eq_true_eq];intros;simp_all;done))))
theorem Jj {l:List Int}{to:Int}(hl:∀ x∈l,I64 x)(hb:l.length≤9223372036854775807)(ht:to≤1000000000)(ht2 : -1≤to):xX Tryz.prog 98 [row l,.int .i64 to] (things l to):=by
 refine .of fun s v=>?_
 refine ac0 Tryz.func98 Tryz.ntmps98 ?_
 have hrs:Tryz.f98.results = #[.tmp 4]:=rfl
 repeat' (first|(with_reducible first|refine uk ?_|refine wk ?_ ?_<;>intro _)|simp -implicitDefEqProofs(disch:=first|assumption|omega)[*])
 refine zC (β:=LV × List Nat) false 4 (fun k p=>k≤l.length∧(k=0∨0≤to)∧Gro v p.2 ((l.take k).map fun x=>zA x (to+1)) p.1) (fun k p=>[(5,p.1),(6,.int .i64 k),(7,.any),(8,.any),(9,.any),(10,.any),(11,.any),(12,.any),(13,.any),(14,.any),(15,.any),(16,.any),(17,.any),(18,.any),(21,.any),(22,.any),(23,.any),(24,.any),(25,.any),(26,.any),(27,.any),(28,.any),(29,.any),(30,.any),(19,.any),(20,.any)]) (fun _ _=>s) (fun _ p=>p.2) ?_ ?_
 ·exact⟨(.nils,v),⟨by omega,by simp,by simpa using Gro.nil v⟩,fz0,rfl,rfl⟩
 rintro k ⟨x,v1⟩ hk ⟨hk2,hk0,hx⟩
 simp only at hx
 by_cases hlt:k<l.length∧k<4∧0≤to
 ·obtain⟨h1,h2,h3⟩:=hlt
  have hn:I64 (nth l k):=by rw[zK h1];exact hl _ (List.getElem_mem h1)
  obtain⟨x',v',hx',_,ha⟩:=Gro.push (P:=Tryz.prog) (t:=23) (t2:=23) (sz:=1) (by_:=8) (by kernel_rfl) rfl (by omega) hx (zA (nth l k) (to+1)) (ds:=[.int .i64 (zA (nth l k) (to+1))]) (by simp) (by simp) (by simp;omega)
  repeat' (first|(with_reducible first|refine uk ?_|refine wk ?_ ?_<;>intro _|refine zc (yw hn (by omega)) ?_)|simp -implicitDefEqProofs(disch:=first|assumption|omega)[*])
  rotate_left
  ·exfalso;omega
  refine⟨h2,(x',v'),⟨by omega,.inr h3,?_⟩,fz,rfl,rfl⟩
  rw[za h1];simpa using hx'
 ·have he:things l to=(l.take k).map fun x=>zA x (to+1):=by
   unfold things
   by_cases h0:to<0
   ·have:k=0:=by omega
    subst this;simp[h0]
   ·rw[if_neg h0]
    have h2:k=4∨k=l.length:=by omega
    rcases h2 with rfl | rfl
    ·rfl
    ·rw[List.take_of_length_le (i:=4) (by omega),List.take_of_length_le (i:=l.length) (by omega)]
  rw[he]
  have hcond:¬ (k<l.length∧k<4∧0≤to):=hlt
  repeat' (first|(with_reducible first|refine uk ?_|refine wk ?_ ?_<;>intro _)|simp -implicitDefEqProofs(disch:=first|assumption|omega)[*])
  all_goals first|(exfalso;omega)|simpa using hx
theorem zeU {xf xc xs xh xo xl:LV}{fs co se ch cho cl:Nat}(h1:aLen Tryz.prog 22 xf=some (.int .i64 fs))(h2:aLen Tryz.prog 23 xc=some (.int .i64 co))(h3:aLen Tryz.prog 23 xs=some (.int .i64 se))
  (h4:aLen Tryz.prog 23 xh=some (.int .i64 ch)) (h5:aLen Tryz.prog 24 xo=some (.int .i64 cho)) (h6:aLen Tryz.prog 132 xl=some (.int .i64 cl)) (hb:cl<4611686018427387904) (mu th lo op a:Int) (ho:I64 op) (ha:I64 a) (hmu:0≤mu) (hlo:0≤lo) :
  zM Tryz.prog 99 [.agg [xf,.int .i64 mu,xc,xs,xh,xo,.int .i64 th],.agg [.int .i64 lo,xl],.agg [.int .i64 op,.int .i64 a]] (.agg (let op':=zA op 27;let m:=vZ fs mu co se ch cho lo cl op';
   if asks op'=false then [.int .i64 op',.int .i64 0] else if m=0 then [.int .i64 12,.int .i64 0] else if op'=0 then [.int .i64 0,.int .i64 (a.tmod 1000)] else [.int .i64 op',.int .i64 (zA a m)])):=by
 refine .of fun s v=>?_
 refine ac0 Tryz.func99 Tryz.ntmps99 ?_
 have hrs:Tryz.f99.results = #[.cell 6 136]:=rfl
 have hm:=fun op=>ziE h1 h2 h3 h4 h5 h6 hb mu th lo op
 have hpos:0≤vZ fs mu co se ch cho lo cl (zA op 27):=by unfold vZ;repeat' split<;>omega
 generalize hop:zA op 27=op' at *
 generalize hmm:vZ fs mu co se ch cho lo cl op'=m at *
 by_cases hm0:m=0
 all_goals cases hk:asks op'
 all_goals
  repeat' (first|(with_reducible first|refine uk ?_|refine wk ?_ ?_<;>intro _|refine zc (yw ho (by omega)) ?_|refine zc (zim _) ?_|refine zc (hm _) ?_|refine zc (yw ha (by omega)) ?_)|simp -implicitDefEqProofs(disch:=first|assumption|omega)[*])
 all_goals first|(exfalso;omega)|(refine zn.eqat ?_ (by simp);simp[*];done)|(refine zn.eqat ?_ (by simp);simp[*,asks,vZ];done)
theorem Xd {l:List Int}{p:Int→Bool}{g:FuncId}{ca:List LV}{s:List AObj}(hb:l.length≤9223372036854775807)(h:∀ k,k<l.length→Ret Tryz.prog g (.int .i64 (nth l k) :: ca) s (.bool (p (nth l k)))) :
  Ret Tryz.prog 206 [row l,.fn (.func g) [] ca] s (.int .i64 (fidx p l)):=by
 refine .of fun v=>?_
 refine ac0 Tryz.func206 Tryz.ntmps206 ?_
 have hrs:Tryz.f206.results = #[.tmp 4]:=rfl
 repeat' (first|(with_reducible first|refine uk ?_|refine wk ?_ ?_<;>intro _)|simp -implicitDefEqProofs(disch:=first|assumption|omega)[*])
 refine zC (β:=List Nat) false l.length (fun k v1=>v <+: v1∧∀ j,j<k→p (nth l j)=false) (fun k _=>[(8,.int .i64 k),(9,.any),(10,.any),(5,.any),(11,.any),(12,.any),(13,.any),(14,.any),(15,.any),(16,.any),(17,.any),(4,.any),(18,.any)]) (fun _ _=>s) (fun _ v1=>v1) ?_ ?_
 ·exact⟨v,⟨List.prefix_refl _,by simp⟩,fz0,rfl,rfl⟩
 rintro k v1 hk ⟨hv,hI⟩
 by_cases hlt:k<l.length
 ·have hh:=h k hlt
  cases hp:p (nth l k)
  ·rw[hp] at hh
   repeat' (first|(with_reducible first|refine uk ?_|refine wk ?_ ?_<;>intro _|refine yE hh (fun v2 hv2=>?_))|simp -implicitDefEqProofs(disch:=first|assumption|omega)[*])
   exact⟨hlt,v2,⟨hv.trans hv2,fun j hj=>by
    by_cases e:j=k
    ·subst e;exact hp
    ·exact hI j (by omega)⟩,fz,rfl,rfl⟩
  ·rw[hp] at hh
   have hf:=uu hlt hI hp
   repeat' (first|(with_reducible first|refine uk ?_|refine wk ?_ ?_<;>intro _|refine yE hh (fun v2 hv2=>?_))|simp -implicitDefEqProofs(disch:=first|assumption|omega)[*])
   exact Ends.eq rfl (by simp) (hv.trans hv2)
 ·have hf:=wv (p:=p) (l:=l) (fun j hj=>hI j (by omega))
  have:k=l.length:=by omega
  subst this
  repeat' (first|(with_reducible first|refine uk ?_|refine wk ?_ ?_<;>intro _)|simp -implicitDefEqProofs(disch:=first|assumption|omega)[*])
  exact Ends.eq rfl (by simp) hv
theorem wA {l:List Int}{p:Int→Bool}{g:FuncId}{ca:List LV}{s:List AObj}(hb:l.length≤9223372036854775807)(h:∀ k,k<l.length→Ret Tryz.prog g (.int .i64 (nth l k) :: ca) s (.bool (p (nth l k)))) :
  Ret Tryz.prog 124 [row l,.fn (.func g) [] ca] s (.bool (l.any p)):=by
 refine .of fun v=>?_
 refine ac0 Tryz.func124 Tryz.ntmps124 ?_
 have hrs:Tryz.f124.results = #[.tmp 4]:=rfl
 have hi:=Xd hb h
 rw[← vQ p l]
 repeat' (first|(with_reducible first|refine uk ?_|refine wk ?_ ?_<;>intro _|refine yE hi (fun v2 hv2=>?_))|simp -implicitDefEqProofs(disch:=first|assumption|omega)[*])
 exact Ends.eq rfl (by simp) hv2
theorem Zw {l:List (List Int)}{p:(List Int)→Bool}{g:FuncId}{ca:List LV}{s:List AObj}(hb:l.length≤9223372036854775807)(h:∀ k,k<l.length→Ret Tryz.prog g (row (nth l k) :: ca) s (.bool (p (nth l k)))) :
  Ret Tryz.prog 208 [row l,.fn (.func g) [] ca] s (.int .i64 (fidx p l)):=by
 refine .of fun v=>?_
 refine ac0 Tryz.func208 Tryz.ntmps208 ?_
 have hrs:Tryz.f208.results = #[.tmp 4]:=rfl
 repeat' (first|(with_reducible first|refine uk ?_|refine wk ?_ ?_<;>intro _)|simp -implicitDefEqProofs(disch:=first|assumption|omega)[*])
 refine zC (β:=List Nat) false l.length (fun k v1=>v <+: v1∧∀ j,j<k→p (nth l j)=false) (fun k _=>[(8,.int .i64 k),(9,.any),(10,.any),(5,.any),(11,.any),(12,.any),(13,.any),(14,.any),(15,.any),(16,.any),(17,.any),(4,.any),(18,.any)]) (fun _ _=>s) (fun _ v1=>v1) ?_ ?_
 ·exact⟨v,⟨List.prefix_refl _,by simp⟩,fz0,rfl,rfl⟩
 rintro k v1 hk ⟨hv,hI⟩
 by_cases hlt:k<l.length
 ·have hh:=h k hlt
  cases hp:p (nth l k)
  ·rw[hp] at hh
   repeat' (first|(with_reducible first|refine uk ?_|refine wk ?_ ?_<;>intro _|refine yE hh (fun v2 hv2=>?_))|simp -implicitDefEqProofs(disch:=first|assumption|omega)[*])
   exact⟨hlt,v2,⟨hv.trans hv2,fun j hj=>by
    by_cases e:j=k
    ·subst e;exact hp
    ·exact hI j (by omega)⟩,fz,rfl,rfl⟩
  ·rw[hp] at hh
   have hf:=uu hlt hI hp
   repeat' (first|(with_reducible first|refine uk ?_|refine wk ?_ ?_<;>intro _|refine yE hh (fun v2 hv2=>?_))|simp -implicitDefEqProofs(disch:=first|assumption|omega)[*])
   exact Ends.eq rfl (by simp) (hv.trans hv2)
 ·have hf:=wv (p:=p) (l:=l) (fun j hj=>hI j (by omega))
  have:k=l.length:=by omega
  subst this
  repeat' (first|(with_reducible first|refine uk ?_|refine wk ?_ ?_<;>intro _)|simp -implicitDefEqProofs(disch:=first|assumption|omega)[*])
  exact Ends.eq rfl (by simp) hv
theorem Ks {l:List (List Int)}{p:(List Int)→Bool}{g:FuncId}{ca:List LV}{s:List AObj}(hb:l.length≤9223372036854775807)(h:∀ k,k<l.length→Ret Tryz.prog g (row (nth l k) :: ca) s (.bool (p (nth l k)))) :
  Ret Tryz.prog 127 [row l,.fn (.func g) [] ca] s (.bool (l.any p)):=by
 refine .of fun v=>?_
 refine ac0 Tryz.func127 Tryz.ntmps127 ?_
 have hrs:Tryz.f127.results = #[.tmp 4]:=rfl
 have hi:=Zw hb h
 rw[← vQ p l]
 repeat' (first|(with_reducible first|refine uk ?_|refine wk ?_ ?_<;>intro _|refine yE hi (fun v2 hv2=>?_))|simp -implicitDefEqProofs(disch:=first|assumption|omega)[*])
 exact Ends.eq rfl (by simp) hv2
theorem zaf {l:List Fn_}{p:Fn_→Bool}{g:FuncId}{ca:List LV}{s:List AObj}(hb:l.length≤9223372036854775807)(h:∀ k,k<l.length→Ret Tryz.prog g (.agg [.int .i64 (nth l k).locals,row (nth l k).code] :: ca) s (.bool (p (nth l k)))) :
  Ret Tryz.prog 212 [row l,.fn (.func g) [] ca] s (.int .i64 (fidx p l)):=by
 refine .of fun v=>?_
 refine ac0 Tryz.func212 Tryz.ntmps212 ?_
 have hrs:Tryz.f212.results = #[.tmp 4]:=rfl
 repeat' (first|(with_reducible first|refine uk ?_|refine wk ?_ ?_<;>intro _)|simp -implicitDefEqProofs(disch:=first|assumption|omega)[*])
 refine zC (β:=List Nat) false l.length (fun k v1=>v <+: v1∧∀ j,j<k→p (nth l j)=false) (fun k _=>[(8,.int .i64 k),(9,.any),(10,.any),(5,.any),(11,.any),(12,.any),(13,.any),(14,.any),(15,.any),(16,.any),(17,.any),(4,.any),(18,.any)]) (fun _ _=>s) (fun _ v1=>v1) ?_ ?_
 ·exact⟨v,⟨List.prefix_refl _,by simp⟩,fz0,rfl,rfl⟩
 rintro k v1 hk ⟨hv,hI⟩
 by_cases hlt:k<l.length
 ·have hh:=h k hlt
  cases hp:p (nth l k)
  ·rw[hp] at hh
   repeat' (first|(with_reducible first|refine uk ?_|refine wk ?_ ?_<;>intro _|refine yE hh (fun v2 hv2=>?_))|simp -implicitDefEqProofs(disch:=first|assumption|omega)[*])
   exact⟨hlt,v2,⟨hv.trans hv2,fun j hj=>by
    by_cases e:j=k
    ·subst e;exact hp
    ·exact hI j (by omega)⟩,fz,rfl,rfl⟩
  ·rw[hp] at hh
   have hf:=uu hlt hI hp
   repeat' (first|(with_reducible first|refine uk ?_|refine wk ?_ ?_<;>intro _|refine yE hh (fun v2 hv2=>?_))|simp -implicitDefEqProofs(disch:=first|assumption|omega)[*])
   exact Ends.eq rfl (by simp) (hv.trans hv2)
 ·have hf:=wv (p:=p) (l:=l) (fun j hj=>hI j (by omega))
  have:k=l.length:=by omega
  subst this
  repeat' (first|(with_reducible first|refine uk ?_|refine wk ?_ ?_<;>intro _)|simp -implicitDefEqProofs(disch:=first|assumption|omega)[*])
  exact Ends.eq rfl (by simp) hv
theorem Zj {l:List Fn_}{p:Fn_→Bool}{g:FuncId}{ca:List LV}{s:List AObj}(hb:l.length≤9223372036854775807)(h:∀ k,k<l.length→Ret Tryz.prog g (.agg [.int .i64 (nth l k).locals,row (nth l k).code] :: ca) s (.bool (p (nth l k)))) :
  Ret Tryz.prog 130 [row l,.fn (.func g) [] ca] s (.bool (l.any p)):=by
 refine .of fun v=>?_
 refine ac0 Tryz.func130 Tryz.ntmps130 ?_
 have hrs:Tryz.f130.results = #[.tmp 4]:=rfl
 have hi:=zaf hb h
 rw[← vQ p l]
 repeat' (first|(with_reducible first|refine uk ?_|refine wk ?_ ?_<;>intro _|refine yE hi (fun v2 hv2=>?_))|simp -implicitDefEqProofs(disch:=first|assumption|omega)[*])
 exact Ends.eq rfl (by simp) hv2
theorem YU {l:List Ins}{p:Ins→Bool}{g:FuncId}{ca:List LV}{s:List AObj}(hb:l.length≤9223372036854775807)(h:∀ k,k<l.length→Ret Tryz.prog g (.agg [.int .i64 (nth l k).op,.int .i64 (nth l k).a] :: ca) s (.bool (p (nth l k)))) :
  Ret Tryz.prog 213 [row l,.fn (.func g) [] ca] s (.int .i64 (fidx p l)):=by
 refine .of fun v=>?_
 refine ac0 Tryz.func213 Tryz.ntmps213 ?_
 have hrs:Tryz.f213.results = #[.tmp 4]:=rfl
 repeat' (first|(with_reducible first|refine uk ?_|refine wk ?_ ?_<;>intro _)|simp -implicitDefEqProofs(disch:=first|assumption|omega)[*])
 refine zC (β:=List Nat) false l.length (fun k v1=>v <+: v1∧∀ j,j<k→p (nth l j)=false) (fun k _=>[(8,.int .i64 k),(9,.any),(10,.any),(5,.any),(11,.any),(12,.any),(13,.any),(14,.any),(15,.any),(16,.any),(17,.any),(4,.any),(18,.any)]) (fun _ _=>s) (fun _ v1=>v1) ?_ ?_
 ·exact⟨v,⟨List.prefix_refl _,by simp⟩,fz0,rfl,rfl⟩
 rintro k v1 hk ⟨hv,hI⟩
 by_cases hlt:k<l.length
 ·have hh:=h k hlt
  cases hp:p (nth l k)
  ·rw[hp] at hh
   repeat' (first|(with_reducible first|refine uk ?_|refine wk ?_ ?_<;>intro _|refine yE hh (fun v2 hv2=>?_))|simp -implicitDefEqProofs(disch:=first|assumption|omega)[*])
   exact⟨hlt,v2,⟨hv.trans hv2,fun j hj=>by
    by_cases e:j=k
    ·subst e;exact hp
    ·exact hI j (by omega)⟩,fz,rfl,rfl⟩
  ·rw[hp] at hh
   have hf:=uu hlt hI hp
   repeat' (first|(with_reducible first|refine uk ?_|refine wk ?_ ?_<;>intro _|refine yE hh (fun v2 hv2=>?_))|simp -implicitDefEqProofs(disch:=first|assumption|omega)[*])
   exact Ends.eq rfl (by simp) (hv.trans hv2)
 ·have hf:=wv (p:=p) (l:=l) (fun j hj=>hI j (by omega))
  have:k=l.length:=by omega
  subst this
  repeat' (first|(with_reducible first|refine uk ?_|refine wk ?_ ?_<;>intro _)|simp -implicitDefEqProofs(disch:=first|assumption|omega)[*])
  exact Ends.eq rfl (by simp) hv
theorem KO {l:List Ins}{p:Ins→Bool}{g:FuncId}{ca:List LV}{s:List AObj}(hb:l.length≤9223372036854775807)(h:∀ k,k<l.length→Ret Tryz.prog g (.agg [.int .i64 (nth l k).op,.int .i64 (nth l k).a] :: ca) s (.bool (p (nth l k)))) :
  Ret Tryz.prog 132 [row l,.fn (.func g) [] ca] s (.bool (l.any p)):=by
 refine .of fun v=>?_
 refine ac0 Tryz.func132 Tryz.ntmps132 ?_
 have hrs:Tryz.f132.results = #[.tmp 4]:=rfl
 have hi:=YU hb h
 rw[← vQ p l]
 repeat' (first|(with_reducible first|refine uk ?_|refine wk ?_ ?_<;>intro _|refine yE hi (fun v2 hv2=>?_))|simp -implicitDefEqProofs(disch:=first|assumption|omega)[*])
 exact Ends.eq rfl (by simp) hv2
end Go.Hb
end
