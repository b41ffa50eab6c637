/-
  A layer for reasoning about the program's calls, and contracts of its functions. CONDITIONS: none; each theorem bears its own.
-/
import Derived.Test.YtieoaonaijbijaaGreatG20
set_option linter.unusedVariables false
set_option linter.unusedSimpArgs false
section
namespace Go.Hb
open Go Go.Proofs Go.RowKit
set_option maxRecDepth 100000
set_option maxHeartbeats 800000
attribute [-simp] aC aL xq yp zE aIf yr zR aLen zt ya zQ zP lBr aq yP aev zk zw zF zI LV.cells LV.cellsOk getElem?_pos getElem?_neg
section
attribute [local simp] Thr.lv Req.lv Ins.lv Prog.lv zO
theorem ZU (c:Int):zM Tryz.prog 235 [.int .i64 c] (.tup [.agg (ends c).1.lv,.agg (ends c).2.lv]):=by
 refine .of fun s v=>?_
 refine ac0 Tryz.func235 Tryz.ntmps235 ?_
 have hrs:Tryz.f235.results = #[.cell 2 73,.cell 3 222]:=rfl
 have he:=Ym c
 simp only[Thr.lv,zO] at he
 repeat' (first|(with_reducible first|refine uk ?_|refine wk ?_ ?_<;>intro _|refine zc he ?_)|simp -implicitDefEqProofs(disch:=first|assumption|omega)[*])
 exact zn.eqat rfl (by simp)
theorem zjk (op:Int):zM Tryz.prog 237 [.int .i64 op] (.int .i64 (xi op)):=by
 refine .of fun s v=>?_
 refine ac0 Tryz.func237 Tryz.ntmps237 ?_
 have hrs:Tryz.f237.results = #[.tmp 2]:=rfl
 repeat' (first|(with_reducible first|refine uk ?_|refine wk ?_ ?_<;>intro _)|simp -implicitDefEqProofs(disch:=first|assumption|omega)[*])
 all_goals exact zn.eq (by simp[xi, *]) (by simp)
theorem zlj (op:Int):zM Tryz.prog 239 [.int .i64 op] (.int .i64 (uf op)):=by
 refine .of fun s v=>?_
 refine ac0 Tryz.func239 Tryz.ntmps239 ?_
 have hrs:Tryz.f239.results = #[.tmp 2]:=rfl
 repeat' (first|(with_reducible first|refine uk ?_|refine wk ?_ ?_<;>intro _)|simp -implicitDefEqProofs(disch:=first|assumption|omega)[*])
 all_goals exact zn.eq (by simp[uf, *]) (by simp)
theorem Qd (t:Thr)(hb:ThrB t)(x:Int):zG Tryz.prog 240 [.agg t.lv,.int .i64 x] (.tup [.agg (xV t x).1.lv,.agg (xV t x).2.lv]):=by
 refine .of fun s v=>?_
 have hp:zG Tryz.prog 241 [.agg t.lv,.int .i64 x] (.tup [.agg (push t x).1.lv,.bool (push t x).2]):=zeQ (fr:=t.frames) (sk:=t.stack) hb
 have he:=ZU 2
 unfold xV
 generalize push t x=q at *
 obtain⟨t',is⟩:=q
 simp only[Thr.lv,Req.lv,ends] at hp he ⊢
 refine ac0 Tryz.func240 Tryz.ntmps240 ?_
 have hrs:Tryz.f240.results = #[.cell 4 73,.cell 5 222]:=rfl
 cases is
 ·repeat' (first|(with_reducible first|refine uk ?_|refine wk ?_ ?_<;>intro _|refine zg hp (fun v1 hv1=>?_)|refine zc he ?_)|simp -implicitDefEqProofs(disch:=first|assumption|omega)[*])
  exact Ends.eqat rfl (by simp) hv1
 ·repeat' (first|(with_reducible first|refine uk ?_|refine wk ?_ ?_<;>intro _|refine zg hp (fun v1 hv1=>?_))|simp -implicitDefEqProofs(disch:=first|assumption|omega)[*])
  exact Ends.eqat rfl (by simp) hv1
theorem zlg (t:Thr)(hb:ThrB t)(l:List Int)(hl:l.length≤1000):zG Tryz.prog 296 [.agg t.lv,row l] (.tup [.agg (yi t l).1.lv,.bool (yi t l).2]):=by
 refine .of fun s v=>?_
 have he:=Ym 2
 simp only[Thr.lv,zO] at he
 refine ac0 Tryz.func296 Tryz.ntmps296 ?_
 have hrs:Tryz.f296.results = #[.cell 4 73,.tmp 5]:=rfl
 simp only[Thr.lv]
 repeat' (first|(with_reducible first|refine uk ?_|refine wk ?_ ?_<;>intro _|(refine dr P296 mixed ?_ ?_ ?_;kernel_rfl;kernel_rfl))|simp -implicitDefEqProofs(disch:=first|assumption|omega)[*])
 refine zC (β:=Thr × List AObj × List Nat) false l.length (fun k p=>v <+: p.2.2∧ThrB p.1∧yi t l=yi p.1 (l.drop k)) (fun k p=>[(7,.int .i64 k),(11,.any),(12,.any),(13,.any),(14,.any),(18,.any),(19,.any),(20,.any),(21,.any),(22,.any),(23,.any),(17,.any),(24,.any),(25,.any),(8,.any),(9,.any),(26,.any),(27,.any),(28,.any),(5,.any),(29,.any),(15,.any),(16,.any)]) (fun _ p=>s++(.cells [.int .i64 t.state,.int .i64 t.on,row t.frames,row t.stack,.int .i64 t.code] :: .cells [.int .i64 0,.int .i64 0,.nils,.nils,.int .i64 0] :: .cells [.int .i64 p.1.state,.int .i64 p.1.on,row p.1.frames,row p.1.stack,.int .i64 p.1.code] :: p.2.1)) (fun _ p=>p.2.2) ?_ ?_
 ·exact⟨(t,[],v),⟨List.prefix_refl _,hb,rfl⟩,fz0,rfl,rfl⟩
 rintro k ⟨t1,J,v1⟩ hk ⟨hv1,hb1,hI⟩
 simp only at hv1 hb1 hI
 by_cases hlt:k<l.length
 ·have hx:=zB (l:=l) (i:=(k:Int)) (by omega) (by omega)
  have hp:zG Tryz.prog 241 [.agg t1.lv,.int .i64 (nth l k)] (.tup [.agg (push t1 (nth l k)).1.lv,.bool (push t1 (nth l k)).2]):=zeQ (fr:=t1.frames) (sk:=t1.stack) hb1
  have hpb:=zfi hb1 (nth l k)
  rw[QE hlt,yi] at hI
  generalize push t1 (nth l k)=q at *
  obtain⟨t',is⟩:=q
  simp only[Thr.lv] at hp hI hpb
  cases is
  ·simp only[Bool.false_eq_true,if_false] at hI
   rw[hI]
   repeat' (first|(with_reducible first|refine uk ?_|refine wk ?_ ?_<;>intro _|(refine dr P296 mixed ?_ ?_ ?_;kernel_rfl;kernel_rfl)|refine andC ?_ ?_|refine zg hp (fun v2 hv2=>?_)|refine zc he ?_)|simp -implicitDefEqProofs(disch:=first|assumption|omega)[*])
   all_goals exact Ends.eqat rfl (by simp) (hv1.trans hv2)
  ·simp only[if_true] at hI
   repeat' (first|(with_reducible first|refine uk ?_|refine wk ?_ ?_<;>intro _|(refine dr P296 mixed ?_ ?_ ?_;kernel_rfl;kernel_rfl)|refine andC ?_ ?_|refine zg hp (fun v2 hv2=>?_))|simp -implicitDefEqProofs(disch:=first|assumption|omega)[*])
   all_goals exact⟨hlt,(t',J++[.cells [.int .i64 t'.state,.int .i64 t'.on,row t'.frames,row t'.stack,.int .i64 t'.code]],v2),⟨hv1.trans hv2,hpb,hI⟩,fz,by simp,rfl⟩
 ·have:k=l.length:=by omega
  subst this
  rw[List.drop_length,yi] at hI
  rw[hI]
  repeat' (first|(with_reducible first|refine uk ?_|refine wk ?_ ?_<;>intro _|(refine dr P296 mixed ?_ ?_ ?_;kernel_rfl;kernel_rfl))|simp -implicitDefEqProofs(disch:=first|assumption|omega)[*])
  exact Ends.eqat rfl (by simp) hv1
end
section
attribute [local simp] Thr.lv Req.lv Ins.lv
set_option maxHeartbeats 8000000 in
theorem zhF (p:Prog)(t:Thr)(hb:ThrB t)(hst:∀ x∈t.stack, -1073741824≤x∧x≤1073741824)(h0:t.frames≠[])(h1:0≤(topF t).func)(h2:(topF t).func<p.funcs.length)(h3:0≤(topF t).pc∧(topF t).pc≤1000)(h4:(at' p.funcs (topF t).func).code.length≤64)
  (h5:∀ i,wb p t=(i,true)→((i.op=5∨i.op=6)→0≤i.a∧i.a<(topF t).locals.length)∧(i.op=9→0≤i.a∧i.a<p.funcs.length∧0≤(at' p.funcs i.a).locals∧(at' p.funcs i.a).locals≤8)) :
  zG Tryz.prog 199 [.agg [row p.funcs,.int .i64 p.mutexes,row p.conds,row p.semas,row p.chans,row p.choices,.int .i64 p.threads],.agg t.lv] (.tup [.agg (xU p t).1.lv,.agg (xU p t).2.lv]):=by
 refine .of fun s v=>?_
 have hf0:t.frames.length≠0:=fun e=>h0 (List.length_eq_zero_iff.1 e)
 have hb1:=hb.1
 have hb2:=hb.2.1
 have hfe:zM Tryz.prog 234 _ (.tup [.agg (wb p t).1.lv,.bool (wb p t).2]):=zjx (fs:=p.funcs) (mu:=p.mutexes) (th:=p.threads) (cn:=p.conds) (se:=p.semas) (ch:=p.chans) (cho:=p.choices) (fr:=t.frames) (sk:=t.stack) (st:=t.state) (on:=t.on) (co:=t.code) h0 (by omega) h1 h2 h3.1 (Nat.le_trans h4 (by omega))
 have hju:zM Tryz.prog 236 _ (.agg (jump t ((topF t).pc+1)).lv):=zdT (pc:=(topF t).pc+1) hb h0
 have hjb:=zlM hb ((topF t).pc+1)
 have he6:=ZU 6
 have he1:=ZU 1
 have hx:=zB (l:=t.frames) (i:=(t.frames.length:Int)-1) (by omega) (by omega)
 have e1:((t.frames.length:Int)-1).toNat=t.frames.length-1:=by omega
 rw[e1] at hx
 have hvm:xU p t=if (wb p t).2=false then ends 6 else if t.stack.length<xi (wb p t).1.op then ends 1 else
  if 0<uf (wb p t).1.op then ((popN (xi (wb p t).1.op) (jump t ((topF t).pc+1))).1,⟨uf (wb p t).1.op,(wb p t).1.a,if 0<xi (wb p t).1.op then nth (popN (xi (wb p t).1.op) (jump t ((topF t).pc+1))).2 0 else 0⟩)
  else act p (popN (xi (wb p t).1.op) (jump t ((topF t).pc+1))).1 (wb p t).1 (popN (xi (wb p t).1.op) (jump t ((topF t).pc+1))).2:=rfl
 have hjf:Hid ((jump t ((topF t).pc+1)).frames=t.frames.set (t.frames.length-1) {topF t with pc:=(topF t).pc+1 }):=rfl
 have hjs:Hid ((jump t ((topF t).pc+1)).stack=t.stack):=rfl
 have htop:topF t=nth t.frames (t.frames.length-1):=rfl
 generalize xU p t=V at *
 have hI64:(topF t).pc+1<9223372036854775807:=by omega
 generalize wb p t=q at *
 obtain⟨i,is⟩:=q
 generalize jump t ((topF t).pc+1)=tj at *
 simp only[Thr.lv,Ins.lv,Req.lv,ends,zO] at hfe hju he6 he1
 rw[htop] at hju
 have h3':=h3
 rw[htop] at h3'
 refine ac0 Tryz.func199 Tryz.ntmps199 ?_
 have hrs:Tryz.f199.results = #[.cell 4 73,.cell 5 222]:=rfl
 cases is
 ·rw[if_pos rfl] at hvm
  subst hvm
  simp only[Thr.lv,Req.lv,ends,zO]
  repeat' (first|(with_reducible first|refine uk ?_|refine wk ?_ ?_<;>intro _|(refine dr P199 mixed ?_ ?_ ?_;kernel_rfl;kernel_rfl)|refine zc hfe ?_|refine zc he6 ?_)|simp -implicitDefEqProofs(disch:=first|assumption|omega)[*])
  exact Ends.eqat rfl (by simp) (List.prefix_refl _)
 rw[if_neg (by simp)] at hvm
 have hne:=zjk i.op
 have hnl:xi i.op≤2:=by unfold xi;split;omega;split<;>omega
 by_cases hlt:t.stack.length<xi i.op
 ·rw[if_pos hlt] at hvm
  subst hvm
  simp only[Thr.lv,Req.lv,ends,zO]
  repeat' (first|(with_reducible first|refine uk ?_|refine wk ?_ ?_<;>intro _|(refine dr P199 mixed ?_ ?_ ?_;kernel_rfl;kernel_rfl)|refine andC ?_ ?_|refine zc hfe ?_|refine zc hju ?_|refine zc hne ?_|refine zc he1 ?_)|simp -implicitDefEqProofs(disch:=first|assumption|omega)[*])
  all_goals exact Ends.eqat rfl (by simp) (List.prefix_refl _)
 ·rw[if_neg hlt] at hvm
  repeat' (first|(with_reducible first|refine uk ?_|refine wk ?_ ?_<;>intro _|(refine dr P199 mixed ?_ ?_ ?_;kernel_rfl;kernel_rfl)|refine andC ?_ ?_|refine zc hfe ?_|refine zc hju ?_|refine zc hne ?_)|simp -implicitDefEqProofs(disch:=first|assumption|omega)[*])
  all_goals (
   have hki:=zlj i.op
   refine zC (β:=List AObj × LV × List Nat) false (xi i.op) (fun k p=>GroE v p.2.2 (popN k tj).2 p.2.1) (fun k p=>[(9,p.2.1),(10,.int .i64 k),(54,.any),(55,.any),(56,.any),(57,.any),(58,.any),(62,.any),(63,.any),(61,.any),(64,.any),(65,.any),(66,.any),(11,.any),(12,.any),(13,.any),(67,.any),(68,.any),(69,.any),(70,.any),(71,.any),(59,.any),(60,.any)])
    (fun k p'=>s++(.cells [row p.funcs,.int .i64 p.mutexes,row p.conds,row p.semas,row p.chans,row p.choices,.int .i64 p.threads] :: .cells [.int .i64 t.state,.int .i64 t.on,row t.frames,row t.stack,.int .i64 t.code] :: .cells [.int .i64 0,.int .i64 0,.nils,.nils,.int .i64 0] :: .cells [.int .i64 0,.int .i64 0,.int .i64 0] :: .cells [.int .i64 i.op,.int .i64 i.a] :: .cells [.int .i64 (popN k tj).1.state,.int .i64 (popN k tj).1.on,row (popN k tj).1.frames,row (popN k tj).1.stack,.int .i64 (popN k tj).1.code] :: p'.1)) (fun _ p=>p.2.2) ?_ ?_
   ·exact⟨([],.nils,v),GroE.nil _,fz0,rfl,rfl⟩
   rintro k ⟨J,xl,v1⟩ hk hG
   simp only at hG
   by_cases hkn:k<xi i.op
   ·have hpop:zG Tryz.prog 238 [.agg (popN k tj).1.lv] (.tup [.agg (pop (popN k tj).1).1.lv,.int .i64 (pop (popN k tj).1).2.1,.bool (pop (popN k tj).1).2.2]):=zmn (zfw hjb k)
    have hsucc:popN (k+1) tj=((pop (popN k tj).1).1,(popN k tj).2++[(pop (popN k tj).1).2.1]):=rfl
    have hlen:=Xk tj k
    generalize popN k tj=w at *
    generalize pop w.1=u at *
    obtain⟨u1,u2,u3⟩:=u
    have hxc:=hG.gro.cells
    simp only[Thr.lv] at hpop
    repeat' (first|(with_reducible first|refine uk ?_|refine wk ?_ ?_<;>intro _|(refine dr P199 mixed ?_ ?_ ?_;kernel_rfl;kernel_rfl)|refine zc hne ?_|refine zg hpop (fun v2 hv2=>?_))|simp -implicitDefEqProofs(disch:=first|assumption|omega)[*])
    have hG2:GroE v v2 w.2 xl:=GroC.mono hG hv2
    obtain⟨x2,v3,hG3,_,ha⟩:=hG2.push (P:=Tryz.prog) (t:=23) (t2:=23) (sz:=1) (by_:=8) (by kernel_rfl) rfl (by omega) u2 (by omega)
    simp only[yG] at ha
    repeat' (first|(with_reducible first|refine uk ?_|refine wk ?_ ?_<;>intro _|(refine dr P199 mixed ?_ ?_ ?_;kernel_rfl;kernel_rfl))|simp -implicitDefEqProofs(disch:=first|assumption|omega)[*])
    exact⟨hkn,(J++[.cells [.int .i64 u1.state,.int .i64 u1.on,row u1.frames,row u1.stack,.int .i64 u1.code]],x2,v3),by simp only[hsucc];exact hG3,fz,by simp[hsucc],rfl⟩
   ·have hkk:k=xi i.op:=by omega
    subst hkk
    have hln:=Xk tj (xi i.op)
    have hob:=zfw hjb (xi i.op)
    have hof:Hid ((popN (xi i.op) tj).1.frames=tj.frames):=QA tj (xi i.op)
    have hin:=zbD (t:=tj) (by rw[show tj.stack=t.stack from hjs];exact hst) (xi i.op)
    generalize popN (xi i.op) tj=w at *
    obtain⟨out,L⟩:=w
    simp only at hln hob hof hin hG hvm
    have hxc:=hG.gro.cells
    have hxl:=hG.gro.len (P:=Tryz.prog) (t:=23) (by kernel_rfl)
    have hix:=fun i=>hG.ix (P:=Tryz.prog) (t:=23) (κ:=.i64) (i:=i)
    by_cases hkd:0<uf i.op
    ·rw[if_pos hkd] at hvm
     subst hvm
     simp only[Thr.lv,Req.lv]
     by_cases hn0:0<xi i.op
     ·have hi0:=zB (l:=L) (i:=0) (by omega) (by omega)
      repeat' (first|(with_reducible first|refine uk ?_|refine wk ?_ ?_<;>intro _|(refine dr P199 mixed ?_ ?_ ?_;kernel_rfl;kernel_rfl)|refine andC ?_ ?_|refine zc hne ?_|refine zc hki ?_)|simp -implicitDefEqProofs(disch:=first|assumption|omega)[*])
      all_goals exact Ends.eqat rfl (by simp) hG.1
     ·have hn1:xi i.op=0:=by omega
      repeat' (first|(with_reducible first|refine uk ?_|refine wk ?_ ?_<;>intro _|(refine dr P199 mixed ?_ ?_ ?_;kernel_rfl;kernel_rfl)|refine andC ?_ ?_|refine zc hne ?_|refine zc hki ?_)|simp -implicitDefEqProofs(disch:=first|assumption|omega)[*])
      all_goals exact Ends.eqat rfl (by simp) hG.1
    ·rw[if_neg hkd] at hvm
     subst hvm
     have htop2:topF out = {topF t with pc:=(topF t).pc+1 }:=by
      unfold topF
      rw[show out.frames=_ from hof,show tj.frames=_ from hjf,List.length_set,wC (by omega)]
      rfl
     have hone:out.frames≠[]:=by rw[show out.frames=_ from hof,show tj.frames=_ from hjf];exact List.ne_nil_of_length_pos (by rw[List.length_set];omega)
     have hloc:(topF out).locals=(topF t).locals:=by rw[htop2]
     have hpu:=fun x=>Qd out hob x
     obtain⟨op,a⟩:=i
     obtain⟨h5a,h5b⟩:=h5 _ rfl
     simp only at h5a h5b hln hne hki hkd hlt hnl ⊢
     clear h5
     by_cases c0:op=0
     ·subst c0
      have hp:=Qd out hob a
      rw[show act p out ⟨0,a⟩ L=xV out a from by simp[act]]
      generalize xV out a=u at hp ⊢
      simp only[Thr.lv,Req.lv] at hp ⊢
      repeat' (first|(with_reducible first|refine uk ?_|refine wk ?_ ?_<;>intro _|(refine dr P199 mixed ?_ ?_ ?_;kernel_rfl;kernel_rfl)|refine andC ?_ ?_|refine zc hne ?_|refine zc hki ?_|refine zg hp (fun v2 hv2=>?_))|simp -implicitDefEqProofs(disch:=first|assumption|omega)[*])
      all_goals exact Ends.eqat rfl (by simp) (hG.1.trans hv2)
     by_cases c2:op=2
     ·subst c2
      have hn1:xi 2=1:=by simp[xi]
      have hi0:=zB (l:=L) (i:=0) (by omega) (by omega)
      have hq:zG Tryz.prog 241 [.agg out.lv,.int .i64 (nth L 0)] (.tup [.agg (push out (nth L 0)).1.lv,.bool (push out (nth L 0)).2]):=zeQ hob
      have hub:=zfi hob (nth L 0)
      rw[show act p out ⟨2,a⟩ L=xV (push out (nth L 0)).1 (nth L 0) from by simp[act]]
      generalize push out (nth L 0)=w at *
      have hp:=Qd w.1 hub (nth L 0)
      generalize xV w.1 (nth L 0)=u at *
      simp only[Thr.lv,Req.lv] at hp hq ⊢
      repeat' (first|(with_reducible first|refine uk ?_|refine wk ?_ ?_<;>intro _|(refine dr P199 mixed ?_ ?_ ?_;kernel_rfl;kernel_rfl)|refine andC ?_ ?_|refine zc hne ?_|refine zc hki ?_|refine zg hq (fun v2 hv2=>?_)|refine zg hp (fun v3 hv3=>?_))|simp -implicitDefEqProofs(disch:=first|assumption|omega)[*])
      all_goals exact Ends.eqat rfl (by simp) ((hG.1.trans hv2).trans hv3)
     by_cases c3:op=3
     ·subst c3
      have hn1:xi 3=2:=by simp[xi]
      have hi0:=zB (l:=L) (i:=0) (by omega) (by omega)
      have hi1:=zB (l:=L) (i:=1) (by omega) (by omega)
      have hb0:=hin.2 (nth L 0) (zm (by omega))
      have hb1:=hin.2 (nth L 1) (zm (by omega))
      have hp:=Qd out hob (nth L 1+nth L 0)
      rw[show act p out ⟨3,a⟩ L=xV out (nth L 1+nth L 0) from by simp[act]]
      generalize xV out (nth L 1+nth L 0)=u at *
      simp only[Thr.lv,Req.lv] at hp ⊢
      repeat' (first|(with_reducible first|refine uk ?_|refine wk ?_ ?_<;>intro _|(refine dr P199 mixed ?_ ?_ ?_;kernel_rfl;kernel_rfl)|refine andC ?_ ?_|refine zc hne ?_|refine zc hki ?_|refine zg hp (fun v2 hv2=>?_))|simp -implicitDefEqProofs(disch:=first|assumption|omega)[*])
      all_goals exact Ends.eqat rfl (by simp) (hG.1.trans hv2)
     by_cases c4:op=4
     ·subst c4
      have hn1:xi 4=2:=by simp[xi]
      have hi0:=zB (l:=L) (i:=0) (by omega) (by omega)
      have hi1:=zB (l:=L) (i:=1) (by omega) (by omega)
      have hb0:=hin.2 (nth L 0) (zm (by omega))
      have hb1:=hin.2 (nth L 1) (zm (by omega))
      have hp:=Qd out hob (nth L 1-nth L 0)
      rw[show act p out ⟨4,a⟩ L=xV out (nth L 1-nth L 0) from by simp[act]]
      generalize xV out (nth L 1-nth L 0)=u at *
      simp only[Thr.lv,Req.lv] at hp ⊢
      repeat' (first|(with_reducible first|refine uk ?_|refine wk ?_ ?_<;>intro _|(refine dr P199 mixed ?_ ?_ ?_;kernel_rfl;kernel_rfl)|refine andC ?_ ?_|refine zc hne ?_|refine zc hki ?_|refine zg hp (fun v2 hv2=>?_))|simp -implicitDefEqProofs(disch:=first|assumption|omega)[*])
      all_goals exact Ends.eqat rfl (by simp) (hG.1.trans hv2)
     by_cases c5:op=5
     ·subst c5
      obtain⟨ha0,ha1⟩:=h5a (by simp)
      have hlo:a<(nth out.frames (out.frames.length-1)).locals.length:=by rw[← hloc] at ha1;exact ha1
      have hg:zM Tryz.prog 242 [.agg out.lv,.int .i64 a] (.int .i64 (getL out a)):=zkW hone ha0 hlo hob.1
      rw[show act p out ⟨5,a⟩ L=xV out (getL out a) from by simp[act]]
      generalize getL out a=g at *
      have hp:=Qd out hob g
      generalize xV out g=u at *
      simp only[Thr.lv,Req.lv] at hp hg ⊢
      repeat' (first|(with_reducible first|refine uk ?_|refine wk ?_ ?_<;>intro _|(refine dr P199 mixed ?_ ?_ ?_;kernel_rfl;kernel_rfl)|refine andC ?_ ?_|refine zc hne ?_|refine zc hki ?_|refine zc hg ?_|refine zg hp (fun v2 hv2=>?_))|simp -implicitDefEqProofs(disch:=first|assumption|omega)[*])
      all_goals exact Ends.eqat rfl (by simp) (hG.1.trans hv2)
     by_cases c6:op=6
     ·subst c6
      have hn1:xi 6=1:=by simp[xi]
      have hi0:=zB (l:=L) (i:=0) (by omega) (by omega)
      obtain⟨ha0,ha1⟩:=h5a (by simp)
      have hlo:a<(nth out.frames (out.frames.length-1)).locals.length:=by rw[← hloc] at ha1;exact ha1
      have hg:zM Tryz.prog 243 [.agg out.lv,.int .i64 a,.int .i64 (nth L 0)] (.agg (setL out a (nth L 0)).lv):=zkU hob hone ha0 hlo
      rw[show act p out ⟨6,a⟩ L=(setL out a (nth L 0),⟨0,0,0⟩) from by simp[act]]
      generalize setL out a (nth L 0)=u at *
      simp only[Thr.lv,Req.lv] at hg ⊢
      repeat' (first|(with_reducible first|refine uk ?_|refine wk ?_ ?_<;>intro _|(refine dr P199 mixed ?_ ?_ ?_;kernel_rfl;kernel_rfl)|refine andC ?_ ?_|refine zc hne ?_|refine zc hki ?_|refine zc hg ?_)|simp -implicitDefEqProofs(disch:=first|assumption|omega)[*])
      all_goals exact Ends.eqat rfl (by simp) hG.1
     by_cases c7:op=7
     ·subst c7
      have hg:zM Tryz.prog 236 [.agg out.lv,.int .i64 a] (.agg (jump out a).lv):=zdT hob hone
      rw[show act p out ⟨7,a⟩ L=(jump out a,⟨0,0,0⟩) from by simp[act]]
      generalize jump out a=u at *
      simp only[Thr.lv,Req.lv] at hg ⊢
      repeat' (first|(with_reducible first|refine uk ?_|refine wk ?_ ?_<;>intro _|(refine dr P199 mixed ?_ ?_ ?_;kernel_rfl;kernel_rfl)|refine andC ?_ ?_|refine zc hne ?_|refine zc hki ?_|refine zc hg ?_)|simp -implicitDefEqProofs(disch:=first|assumption|omega)[*])
      all_goals exact Ends.eqat rfl (by simp) hG.1
     by_cases c8:op=8
     ·subst c8
      have hn1:xi 8=1:=by simp[xi]
      have hi0:=zB (l:=L) (i:=0) (by omega) (by omega)
      by_cases hz:nth L 0=0
      ·have hg:zM Tryz.prog 236 [.agg out.lv,.int .i64 a] (.agg (jump out a).lv):=zdT hob hone
       rw[show act p out ⟨8,a⟩ L=(jump out a,⟨0,0,0⟩) from by simp[act,hz]]
       generalize jump out a=u at *
       simp only[Thr.lv,Req.lv] at hg ⊢
       repeat' (first|(with_reducible first|refine uk ?_|refine wk ?_ ?_<;>intro _|(refine dr P199 mixed ?_ ?_ ?_;kernel_rfl;kernel_rfl)|refine andC ?_ ?_|refine zc hne ?_|refine zc hki ?_|refine zc hg ?_)|simp -implicitDefEqProofs(disch:=first|assumption|omega)[*])
       all_goals exact Ends.eqat rfl (by simp) hG.1
      ·rw[show act p out ⟨8,a⟩ L=(out,⟨0,0,0⟩) from by simp[act,hz]]
       simp only[Thr.lv,Req.lv]
       repeat' (first|(with_reducible first|refine uk ?_|refine wk ?_ ?_<;>intro _|(refine dr P199 mixed ?_ ?_ ?_;kernel_rfl;kernel_rfl)|refine andC ?_ ?_|refine zc hne ?_|refine zc hki ?_)|simp -implicitDefEqProofs(disch:=first|assumption|omega)[*])
       all_goals exact Ends.eqat rfl (by simp) hG.1
     by_cases c9:op=9
     ·subst c9
      obtain⟨ha0,ha1,ha2,ha3⟩:=h5b rfl
      have hg:zG Tryz.prog 244 [.agg p.lv,.agg out.lv,.int .i64 a] (.tup [.agg (enter p out a).1.lv,.bool (enter p out a).2]):=zkb hob ha0 ha1 ha2 ha3
      have he3:=ZU 3
      have hact:act p out ⟨9,a⟩ L=if (enter p out a).2=true then ((enter p out a).1,⟨0,0,0⟩) else ends 3:=by simp[act]
      rw[hact]
      clear hact
      generalize enter p out a=w at *
      obtain⟨w1,w2⟩:=w
      simp only[Thr.lv,Prog.lv,ends,zO] at hg he3
      cases w2
      ·rw[if_neg (by simp)]
       simp only[Thr.lv,Req.lv,ends,zO]
       repeat' (first|(with_reducible first|refine uk ?_|refine wk ?_ ?_<;>intro _|(refine dr P199 mixed ?_ ?_ ?_;kernel_rfl;kernel_rfl)|refine andC ?_ ?_|refine zc hne ?_|refine zc hki ?_|refine zg hg (fun v2 hv2=>?_)|refine zc he3 ?_)|simp -implicitDefEqProofs(disch:=first|assumption|omega)[*])
       all_goals exact Ends.eqat rfl (by simp) (hG.1.trans hv2)
      ·rw[if_pos rfl]
       simp only[Thr.lv,Req.lv]
       repeat' (first|(with_reducible first|refine uk ?_|refine wk ?_ ?_<;>intro _|(refine dr P199 mixed ?_ ?_ ?_;kernel_rfl;kernel_rfl)|refine andC ?_ ?_|refine zc hne ?_|refine zc hki ?_|refine zg hg (fun v2 hv2=>?_))|simp -implicitDefEqProofs(disch:=first|assumption|omega)[*])
       all_goals exact Ends.eqat rfl (by simp) (hG.1.trans hv2)
     by_cases c10:op=10
     ·subst c10
      have hg:zG Tryz.prog 245 [.agg out.lv] (.tup [.agg (leave out).1.lv,.bool (leave out).2]):=zjI hob hone
      have he3:=ZU 0
      have hact:act p out ⟨10,a⟩ L=if (leave out).2=true then ((leave out).1,⟨0,0,0⟩) else ends 0:=by simp[act]
      rw[hact]
      clear hact
      generalize leave out=w at *
      obtain⟨w1,w2⟩:=w
      simp only[Thr.lv,Req.lv,ends,zO] at hg he3
      cases w2
      ·rw[if_neg (by simp)]
       simp only[Thr.lv,Req.lv,ends,zO]
       repeat' (first|(with_reducible first|refine uk ?_|refine wk ?_ ?_<;>intro _|(refine dr P199 mixed ?_ ?_ ?_;kernel_rfl;kernel_rfl)|refine andC ?_ ?_|refine zc hne ?_|refine zc hki ?_|refine zg hg (fun v2 hv2=>?_)|refine zc he3 ?_)|simp -implicitDefEqProofs(disch:=first|assumption|omega)[*])
       all_goals exact Ends.eqat rfl (by simp) (hG.1.trans hv2)
      ·rw[if_pos rfl]
       simp only[Thr.lv,Req.lv]
       repeat' (first|(with_reducible first|refine uk ?_|refine wk ?_ ?_<;>intro _|(refine dr P199 mixed ?_ ?_ ?_;kernel_rfl;kernel_rfl)|refine andC ?_ ?_|refine zc hne ?_|refine zc hki ?_|refine zg hg (fun v2 hv2=>?_))|simp -implicitDefEqProofs(disch:=first|assumption|omega)[*])
       all_goals exact Ends.eqat rfl (by simp) (hG.1.trans hv2)
     by_cases c26:op=26
     ·subst c26
      have he3:=ZU 0
      rw[show act p out ⟨26,a⟩ L=ends 0 from by simp[act]]
      simp only[Thr.lv,Req.lv,ends,zO] at he3 ⊢
      repeat' (first|(with_reducible first|refine uk ?_|refine wk ?_ ?_<;>intro _|(refine dr P199 mixed ?_ ?_ ?_;kernel_rfl;kernel_rfl)|refine andC ?_ ?_|refine zc hne ?_|refine zc hki ?_|refine zc he3 ?_)|simp -implicitDefEqProofs(disch:=first|assumption|omega)[*])
      all_goals exact Ends.eqat rfl (by simp) hG.1
     rw[show act p out ⟨op,a⟩ L=(out,⟨0,0,0⟩) from by simp[act, *]]
     simp only[Thr.lv,Req.lv]
     repeat' (first|(with_reducible first|refine uk ?_|refine wk ?_ ?_<;>intro _|(refine dr P199 mixed ?_ ?_ ?_;kernel_rfl;kernel_rfl)|refine andC ?_ ?_|refine zc hne ?_|refine zc hki ?_)|simp -implicitDefEqProofs(disch:=first|assumption|omega)[*])
     all_goals exact Ends.eqat rfl (by simp) hG.1)
end
end Go.Hb
end
