/-
  A layer for reasoning about the program's calls, and contracts of its functions. CONDITIONS: none; each theorem bears its own.
-/
import Derived.Test.YtieoaonaijbijaaGreatG21
import Derived.Test.YtieoaonaijbijaaGreatG20
import Derived.Test.YtieoaonaijbijaaGreatG07
set_option linter.unusedVariables false
set_option linter.unusedSimpArgs false
section
namespace Go.Hb
open Go Go.Proofs Go.RowKit
set_option maxRecDepth 100000
set_option maxHeartbeats 800000
attribute [-simp] aC aL aOper aThen aInBlock aIf aPlan aAppend aLen aIndexAddr aSlice aCells aBounds lBr aq initT aev aAppendOwn aAppendNil aAppendNew aAppendRef LV.cells LV.cellsOk getElem?_pos getElem?_neg
section
attribute [local simp] Thr.lv Req.lv Ins.lv
set_option maxHeartbeats 8000000 in
theorem vmStep_p (p:Prog) (t:Thr) (hb:ThrB t) (hst:∀ x∈t.stack, -1073741824≤x∧x≤1073741824) (h0:t.frames≠[]) (h1:0≤(topF t).func) (h2:(topF t).func<p.funcs.length) (h3:0≤(topF t).pc∧(topF t).pc≤1000) (h4:(at' p.funcs (topF t).func).code.length≤64)
  (h5:∀ i,fetch p t=(i,true)→((i.op=5∨i.op=6)→0≤i.a∧i.a<(topF t).locals.length)∧(i.op=9→0≤i.a∧i.a<p.funcs.length∧0≤(at' p.funcs i.a).locals∧(at' p.funcs i.a).locals≤8)) :
  PureC Tryz.prog 199 [.agg [row p.funcs,.int .i64 p.mutexes,row p.conds,row p.semas,row p.chans,row p.choices,.int .i64 p.threads],.agg t.lv] (.tup [.agg (vmStep p t).1.lv,.agg (vmStep p t).2.lv]):=by
 refine .of fun s v=>?_
 have hf0:t.frames.length≠0:=fun e=>h0 (List.length_eq_zero_iff.1 e)
 have hb1:=hb.1
 have hb2:=hb.2.1
 have hfe:PureE Tryz.prog 234 _ (.tup [.agg (fetch p t).1.lv,.bool (fetch p t).2]):=fetch_p (fs:=p.funcs) (mu:=p.mutexes) (th:=p.threads) (cn:=p.conds) (se:=p.semas) (ch:=p.chans) (cho:=p.choices) (fr:=t.frames) (sk:=t.stack) (st:=t.state) (on:=t.on) (co:=t.code) h0 (by omega) h1 h2 h3.1 (Nat.le_trans h4 (by omega))
 have hju:PureE Tryz.prog 236 _ (.agg (jump t ((topF t).pc+1)).lv):=jump_p (pc:=(topF t).pc+1) hb h0
 have hjb:=jump_b hb ((topF t).pc+1)
 have he6:=ends_p 6
 have he1:=ends_p 1
 have hx:=ix_in (l:=t.frames) (i:=(t.frames.length:Int) - 1) (by omega) (by omega)
 have e1:((t.frames.length:Int) - 1).toNat=t.frames.length - 1:=by omega
 rw [e1] at hx
 have hvm:vmStep p t=if (fetch p t).2=false then ends 6 else if t.stack.length<needs (fetch p t).1.op then ends 1 else
  if 0<kindOf (fetch p t).1.op then ((popN (needs (fetch p t).1.op) (jump t ((topF t).pc+1))).1,⟨kindOf (fetch p t).1.op,(fetch p t).1.a,if 0<needs (fetch p t).1.op then nth (popN (needs (fetch p t).1.op) (jump t ((topF t).pc+1))).2 0 else 0⟩)
  else act p (popN (needs (fetch p t).1.op) (jump t ((topF t).pc+1))).1 (fetch p t).1 (popN (needs (fetch p t).1.op) (jump t ((topF t).pc+1))).2:=rfl
 have hjf:Hid ((jump t ((topF t).pc+1)).frames=t.frames.set (t.frames.length - 1) {topF t with pc:=(topF t).pc+1 }):=rfl
 have hjs:Hid ((jump t ((topF t).pc+1)).stack=t.stack):=rfl
 have htop:topF t=nth t.frames (t.frames.length - 1):=rfl
 generalize vmStep p t=V at *
 have hI64:(topF t).pc+1<9223372036854775807:=by omega
 generalize fetch p t=q at *
 obtain⟨i,is⟩:=q
 generalize jump t ((topF t).pc+1)=tj at *
 simp only [Thr.lv,Ins.lv,Req.lv,ends,thrEnd] at hfe hju he6 he1
 rw [htop] at hju
 have h3':=h3
 rw [htop] at h3'
 refine ac0 Tryz.func199 Tryz.ntmps199 ?_
 have hrs:Tryz.f199.results = #[.cell 4 73,.cell 5 222]:=rfl
 cases is
 ·rw [if_pos rfl] at hvm
  subst hvm
  simp only [Thr.lv,Req.lv,ends,thrEnd]
  repeat' (first|(with_reducible first|refine uk ?_|refine wk ?_ ?_<;>intro _|(refine dr P199 mixed ?_ ?_ ?_;kernel_rfl;kernel_rfl)|refine callE hfe ?_|refine callE he6 ?_)|simp -implicitDefEqProofs(disch:=first|assumption|omega)[*])
  exact Ends.eqat rfl (by simp) (List.prefix_refl _)
 rw [if_neg (by simp)] at hvm
 have hne:=needs_p i.op
 have hnl:needs i.op≤2:=by unfold needs;split;omega;split<;>omega
 by_cases hlt:t.stack.length<needs i.op
 ·rw [if_pos hlt] at hvm
  subst hvm
  simp only [Thr.lv,Req.lv,ends,thrEnd]
  repeat' (first|(with_reducible first|refine uk ?_|refine wk ?_ ?_<;>intro _|(refine dr P199 mixed ?_ ?_ ?_;kernel_rfl;kernel_rfl)|refine andC ?_ ?_|refine callE hfe ?_|refine callE hju ?_|refine callE hne ?_|refine callE he1 ?_)|simp -implicitDefEqProofs(disch:=first|assumption|omega)[*])
  all_goals exact Ends.eqat rfl (by simp) (List.prefix_refl _)
 ·rw [if_neg hlt] at hvm
  repeat' (first|(with_reducible first|refine uk ?_|refine wk ?_ ?_<;>intro _|(refine dr P199 mixed ?_ ?_ ?_;kernel_rfl;kernel_rfl)|refine andC ?_ ?_|refine callE hfe ?_|refine callE hju ?_|refine callE hne ?_)|simp -implicitDefEqProofs(disch:=first|assumption|omega)[*])
  all_goals (
   have hki:=kind_p i.op
   refine aW_for (β:=List AObj × LV × List Nat) false (needs i.op) (fun k p=>GroE v p.2.2 (popN k tj).2 p.2.1) (fun k p=>[(9,p.2.1),(10,.int .i64 k),(54,.any),(55,.any),(56,.any),(57,.any),(58,.any),(62,.any),(63,.any),(61,.any),(64,.any),(65,.any),(66,.any),(11,.any),(12,.any),(13,.any),(67,.any),(68,.any),(69,.any),(70,.any),(71,.any),(59,.any),(60,.any)])
    (fun k p'=>s++(.cells [row p.funcs,.int .i64 p.mutexes,row p.conds,row p.semas,row p.chans,row p.choices,.int .i64 p.threads] :: .cells [.int .i64 t.state,.int .i64 t.on,row t.frames,row t.stack,.int .i64 t.code] :: .cells [.int .i64 0,.int .i64 0,.nils,.nils,.int .i64 0] :: .cells [.int .i64 0,.int .i64 0,.int .i64 0] :: .cells [.int .i64 i.op,.int .i64 i.a] :: .cells [.int .i64 (popN k tj).1.state,.int .i64 (popN k tj).1.on,row (popN k tj).1.frames,row (popN k tj).1.stack,.int .i64 (popN k tj).1.code] :: p'.1)) (fun _ p=>p.2.2) ?_ ?_
   ·exact⟨([],.nils,v),GroE.nil _,fz0,rfl,rfl⟩
   rintro k ⟨J,xl,v1⟩ hk hG
   simp only at hG
   by_cases hkn:k<needs i.op
   ·have hpop:PureC Tryz.prog 238 [.agg (popN k tj).1.lv] (.tup [.agg (pop (popN k tj).1).1.lv,.int .i64 (pop (popN k tj).1).2.1,.bool (pop (popN k tj).1).2.2]):=pop_p (popN_b hjb k)
    have hsucc:popN (k+1) tj=((pop (popN k tj).1).1,(popN k tj).2++[(pop (popN k tj).1).2.1]):=rfl
    have hlen:=popN_len tj k
    generalize popN k tj=w at *
    generalize pop w.1=u at *
    obtain⟨u1,u2,u3⟩:=u
    have hxc:=hG.gro.cells
    simp only [Thr.lv] at hpop
    repeat' (first|(with_reducible first|refine uk ?_|refine wk ?_ ?_<;>intro _|(refine dr P199 mixed ?_ ?_ ?_;kernel_rfl;kernel_rfl)|refine callE hne ?_|refine callC hpop (fun v2 hv2=>?_))|simp -implicitDefEqProofs(disch:=first|assumption|omega)[*])
    have hG2:GroE v v2 w.2 xl:=GroC.mono hG hv2
    obtain⟨x2,v3,hG3,_,ha⟩:=hG2.push (P:=Tryz.prog) (t:=23) (t2:=23) (sz:=1) (by_:=8) (by kernel_rfl) rfl (by omega) u2 (by omega)
    simp only [enc_int] at ha
    repeat' (first|(with_reducible first|refine uk ?_|refine wk ?_ ?_<;>intro _|(refine dr P199 mixed ?_ ?_ ?_;kernel_rfl;kernel_rfl))|simp -implicitDefEqProofs(disch:=first|assumption|omega)[*])
    exact⟨hkn,(J++[.cells [.int .i64 u1.state,.int .i64 u1.on,row u1.frames,row u1.stack,.int .i64 u1.code]],x2,v3),by simp only [hsucc];exact hG3,fz,by simp [hsucc],rfl⟩
   ·have hkk:k=needs i.op:=by omega
    subst hkk
    have hln:=popN_len tj (needs i.op)
    have hob:=popN_b hjb (needs i.op)
    have hof:Hid ((popN (needs i.op) tj).1.frames=tj.frames):=popN_frames tj (needs i.op)
    have hin:=popN_in (t:=tj) (by rw [show tj.stack=t.stack from hjs];exact hst) (needs i.op)
    generalize popN (needs i.op) tj=w at *
    obtain⟨out,L⟩:=w
    simp only at hln hob hof hin hG hvm
    have hxc:=hG.gro.cells
    have hxl:=hG.gro.len (P:=Tryz.prog) (t:=23) (by kernel_rfl)
    have hix:=fun i=>hG.ix (P:=Tryz.prog) (t:=23) (κ:=.i64) (i:=i)
    by_cases hkd:0<kindOf i.op
    ·rw [if_pos hkd] at hvm
     subst hvm
     simp only [Thr.lv,Req.lv]
     by_cases hn0:0<needs i.op
     ·have hi0:=ix_in (l:=L) (i:=0) (by omega) (by omega)
      repeat' (first|(with_reducible first|refine uk ?_|refine wk ?_ ?_<;>intro _|(refine dr P199 mixed ?_ ?_ ?_;kernel_rfl;kernel_rfl)|refine andC ?_ ?_|refine callE hne ?_|refine callE hki ?_)|simp -implicitDefEqProofs(disch:=first|assumption|omega)[*])
      all_goals exact Ends.eqat rfl (by simp) hG.1
     ·have hn1:needs i.op=0:=by omega
      repeat' (first|(with_reducible first|refine uk ?_|refine wk ?_ ?_<;>intro _|(refine dr P199 mixed ?_ ?_ ?_;kernel_rfl;kernel_rfl)|refine andC ?_ ?_|refine callE hne ?_|refine callE hki ?_)|simp -implicitDefEqProofs(disch:=first|assumption|omega)[*])
      all_goals exact Ends.eqat rfl (by simp) hG.1
    ·rw [if_neg hkd] at hvm
     subst hvm
     have htop2:topF out = {topF t with pc:=(topF t).pc+1 }:=by
      unfold topF
      rw [show out.frames=_ from hof,show tj.frames=_ from hjf,List.length_set,nth_set (by omega)]
      rfl
     have hone:out.frames≠[]:=by rw [show out.frames=_ from hof,show tj.frames=_ from hjf];exact List.ne_nil_of_length_pos (by rw [List.length_set];omega)
     have hloc:(topF out).locals=(topF t).locals:=by rw [htop2]
     have hpu:=fun x=>pushed_p out hob x
     obtain⟨op,a⟩:=i
     obtain⟨h5a,h5b⟩:=h5 _ rfl
     simp only at h5a h5b hln hne hki hkd hlt hnl ⊢
     clear h5
     by_cases c0:op=0
     ·subst c0
      have hp:=pushed_p out hob a
      rw [show act p out ⟨0,a⟩ L=pushed out a from by simp [act]]
      generalize pushed out a=u at hp ⊢
      simp only [Thr.lv,Req.lv] at hp ⊢
      repeat' (first|(with_reducible first|refine uk ?_|refine wk ?_ ?_<;>intro _|(refine dr P199 mixed ?_ ?_ ?_;kernel_rfl;kernel_rfl)|refine andC ?_ ?_|refine callE hne ?_|refine callE hki ?_|refine callC hp (fun v2 hv2=>?_))|simp -implicitDefEqProofs(disch:=first|assumption|omega)[*])
      all_goals exact Ends.eqat rfl (by simp) (hG.1.trans hv2)
     by_cases c2:op=2
     ·subst c2
      have hn1:needs 2=1:=by simp [needs]
      have hi0:=ix_in (l:=L) (i:=0) (by omega) (by omega)
      have hq:PureC Tryz.prog 241 [.agg out.lv,.int .i64 (nth L 0)] (.tup [.agg (push out (nth L 0)).1.lv,.bool (push out (nth L 0)).2]):=push_p hob
      have hub:=push_b hob (nth L 0)
      rw [show act p out ⟨2,a⟩ L=pushed (push out (nth L 0)).1 (nth L 0) from by simp [act]]
      generalize push out (nth L 0)=w at *
      have hp:=pushed_p w.1 hub (nth L 0)
      generalize pushed w.1 (nth L 0)=u at *
      simp only [Thr.lv,Req.lv] at hp hq ⊢
      repeat' (first|(with_reducible first|refine uk ?_|refine wk ?_ ?_<;>intro _|(refine dr P199 mixed ?_ ?_ ?_;kernel_rfl;kernel_rfl)|refine andC ?_ ?_|refine callE hne ?_|refine callE hki ?_|refine callC hq (fun v2 hv2=>?_)|refine callC hp (fun v3 hv3=>?_))|simp -implicitDefEqProofs(disch:=first|assumption|omega)[*])
      all_goals exact Ends.eqat rfl (by simp) ((hG.1.trans hv2).trans hv3)
     by_cases c3:op=3
     ·subst c3
      have hn1:needs 3=2:=by simp [needs]
      have hi0:=ix_in (l:=L) (i:=0) (by omega) (by omega)
      have hi1:=ix_in (l:=L) (i:=1) (by omega) (by omega)
      have hb0:=hin.2 (nth L 0) (nth_mem (by omega))
      have hb1:=hin.2 (nth L 1) (nth_mem (by omega))
      have hp:=pushed_p out hob (nth L 1+nth L 0)
      rw [show act p out ⟨3,a⟩ L=pushed out (nth L 1+nth L 0) from by simp [act]]
      generalize pushed out (nth L 1+nth L 0)=u at *
      simp only [Thr.lv,Req.lv] at hp ⊢
      repeat' (first|(with_reducible first|refine uk ?_|refine wk ?_ ?_<;>intro _|(refine dr P199 mixed ?_ ?_ ?_;kernel_rfl;kernel_rfl)|refine andC ?_ ?_|refine callE hne ?_|refine callE hki ?_|refine callC hp (fun v2 hv2=>?_))|simp -implicitDefEqProofs(disch:=first|assumption|omega)[*])
      all_goals exact Ends.eqat rfl (by simp) (hG.1.trans hv2)
     by_cases c4:op=4
     ·subst c4
      have hn1:needs 4=2:=by simp [needs]
      have hi0:=ix_in (l:=L) (i:=0) (by omega) (by omega)
      have hi1:=ix_in (l:=L) (i:=1) (by omega) (by omega)
      have hb0:=hin.2 (nth L 0) (nth_mem (by omega))
      have hb1:=hin.2 (nth L 1) (nth_mem (by omega))
      have hp:=pushed_p out hob (nth L 1 - nth L 0)
      rw [show act p out ⟨4,a⟩ L=pushed out (nth L 1 - nth L 0) from by simp [act]]
      generalize pushed out (nth L 1 - nth L 0)=u at *
      simp only [Thr.lv,Req.lv] at hp ⊢
      repeat' (first|(with_reducible first|refine uk ?_|refine wk ?_ ?_<;>intro _|(refine dr P199 mixed ?_ ?_ ?_;kernel_rfl;kernel_rfl)|refine andC ?_ ?_|refine callE hne ?_|refine callE hki ?_|refine callC hp (fun v2 hv2=>?_))|simp -implicitDefEqProofs(disch:=first|assumption|omega)[*])
      all_goals exact Ends.eqat rfl (by simp) (hG.1.trans hv2)
     by_cases c5:op=5
     ·subst c5
      obtain⟨ha0,ha1⟩:=h5a (by simp)
      have hlo:a<(nth out.frames (out.frames.length - 1)).locals.length:=by rw [← hloc] at ha1;exact ha1
      have hg:PureE Tryz.prog 242 [.agg out.lv,.int .i64 a] (.int .i64 (getL out a)):=getL_p hone ha0 hlo hob.1
      rw [show act p out ⟨5,a⟩ L=pushed out (getL out a) from by simp [act]]
      generalize getL out a=g at *
      have hp:=pushed_p out hob g
      generalize pushed out g=u at *
      simp only [Thr.lv,Req.lv] at hp hg ⊢
      repeat' (first|(with_reducible first|refine uk ?_|refine wk ?_ ?_<;>intro _|(refine dr P199 mixed ?_ ?_ ?_;kernel_rfl;kernel_rfl)|refine andC ?_ ?_|refine callE hne ?_|refine callE hki ?_|refine callE hg ?_|refine callC hp (fun v2 hv2=>?_))|simp -implicitDefEqProofs(disch:=first|assumption|omega)[*])
      all_goals exact Ends.eqat rfl (by simp) (hG.1.trans hv2)
     by_cases c6:op=6
     ·subst c6
      have hn1:needs 6=1:=by simp [needs]
      have hi0:=ix_in (l:=L) (i:=0) (by omega) (by omega)
      obtain⟨ha0,ha1⟩:=h5a (by simp)
      have hlo:a<(nth out.frames (out.frames.length - 1)).locals.length:=by rw [← hloc] at ha1;exact ha1
      have hg:PureE Tryz.prog 243 [.agg out.lv,.int .i64 a,.int .i64 (nth L 0)] (.agg (setL out a (nth L 0)).lv):=setL_p hob hone ha0 hlo
      rw [show act p out ⟨6,a⟩ L=(setL out a (nth L 0),⟨0,0,0⟩) from by simp [act]]
      generalize setL out a (nth L 0)=u at *
      simp only [Thr.lv,Req.lv] at hg ⊢
      repeat' (first|(with_reducible first|refine uk ?_|refine wk ?_ ?_<;>intro _|(refine dr P199 mixed ?_ ?_ ?_;kernel_rfl;kernel_rfl)|refine andC ?_ ?_|refine callE hne ?_|refine callE hki ?_|refine callE hg ?_)|simp -implicitDefEqProofs(disch:=first|assumption|omega)[*])
      all_goals exact Ends.eqat rfl (by simp) hG.1
     by_cases c7:op=7
     ·subst c7
      have hg:PureE Tryz.prog 236 [.agg out.lv,.int .i64 a] (.agg (jump out a).lv):=jump_p hob hone
      rw [show act p out ⟨7,a⟩ L=(jump out a,⟨0,0,0⟩) from by simp [act]]
      generalize jump out a=u at *
      simp only [Thr.lv,Req.lv] at hg ⊢
      repeat' (first|(with_reducible first|refine uk ?_|refine wk ?_ ?_<;>intro _|(refine dr P199 mixed ?_ ?_ ?_;kernel_rfl;kernel_rfl)|refine andC ?_ ?_|refine callE hne ?_|refine callE hki ?_|refine callE hg ?_)|simp -implicitDefEqProofs(disch:=first|assumption|omega)[*])
      all_goals exact Ends.eqat rfl (by simp) hG.1
     by_cases c8:op=8
     ·subst c8
      have hn1:needs 8=1:=by simp [needs]
      have hi0:=ix_in (l:=L) (i:=0) (by omega) (by omega)
      by_cases hz:nth L 0=0
      ·have hg:PureE Tryz.prog 236 [.agg out.lv,.int .i64 a] (.agg (jump out a).lv):=jump_p hob hone
       rw [show act p out ⟨8,a⟩ L=(jump out a,⟨0,0,0⟩) from by simp [act,hz]]
       generalize jump out a=u at *
       simp only [Thr.lv,Req.lv] at hg ⊢
       repeat' (first|(with_reducible first|refine uk ?_|refine wk ?_ ?_<;>intro _|(refine dr P199 mixed ?_ ?_ ?_;kernel_rfl;kernel_rfl)|refine andC ?_ ?_|refine callE hne ?_|refine callE hki ?_|refine callE hg ?_)|simp -implicitDefEqProofs(disch:=first|assumption|omega)[*])
       all_goals exact Ends.eqat rfl (by simp) hG.1
      ·rw [show act p out ⟨8,a⟩ L=(out,⟨0,0,0⟩) from by simp [act,hz]]
       simp only [Thr.lv,Req.lv]
       repeat' (first|(with_reducible first|refine uk ?_|refine wk ?_ ?_<;>intro _|(refine dr P199 mixed ?_ ?_ ?_;kernel_rfl;kernel_rfl)|refine andC ?_ ?_|refine callE hne ?_|refine callE hki ?_)|simp -implicitDefEqProofs(disch:=first|assumption|omega)[*])
       all_goals exact Ends.eqat rfl (by simp) hG.1
     by_cases c9:op=9
     ·subst c9
      obtain⟨ha0,ha1,ha2,ha3⟩:=h5b rfl
      have hg:PureC Tryz.prog 244 [.agg p.lv,.agg out.lv,.int .i64 a] (.tup [.agg (enter p out a).1.lv,.bool (enter p out a).2]):=enter_p hob ha0 ha1 ha2 ha3
      have he3:=ends_p 3
      have hact:act p out ⟨9,a⟩ L=if (enter p out a).2=true then ((enter p out a).1,⟨0,0,0⟩) else ends 3:=by simp [act]
      rw [hact]
      clear hact
      generalize enter p out a=w at *
      obtain⟨w1,w2⟩:=w
      simp only [Thr.lv,Prog.lv,ends,thrEnd] at hg he3
      cases w2
      ·rw [if_neg (by simp)]
       simp only [Thr.lv,Req.lv,ends,thrEnd]
       repeat' (first|(with_reducible first|refine uk ?_|refine wk ?_ ?_<;>intro _|(refine dr P199 mixed ?_ ?_ ?_;kernel_rfl;kernel_rfl)|refine andC ?_ ?_|refine callE hne ?_|refine callE hki ?_|refine callC hg (fun v2 hv2=>?_)|refine callE he3 ?_)|simp -implicitDefEqProofs(disch:=first|assumption|omega)[*])
       all_goals exact Ends.eqat rfl (by simp) (hG.1.trans hv2)
      ·rw [if_pos rfl]
       simp only [Thr.lv,Req.lv]
       repeat' (first|(with_reducible first|refine uk ?_|refine wk ?_ ?_<;>intro _|(refine dr P199 mixed ?_ ?_ ?_;kernel_rfl;kernel_rfl)|refine andC ?_ ?_|refine callE hne ?_|refine callE hki ?_|refine callC hg (fun v2 hv2=>?_))|simp -implicitDefEqProofs(disch:=first|assumption|omega)[*])
       all_goals exact Ends.eqat rfl (by simp) (hG.1.trans hv2)
     by_cases c10:op=10
     ·subst c10
      have hg:PureC Tryz.prog 245 [.agg out.lv] (.tup [.agg (leave out).1.lv,.bool (leave out).2]):=leave_p hob hone
      have he3:=ends_p 0
      have hact:act p out ⟨10,a⟩ L=if (leave out).2=true then ((leave out).1,⟨0,0,0⟩) else ends 0:=by simp [act]
      rw [hact]
      clear hact
      generalize leave out=w at *
      obtain⟨w1,w2⟩:=w
      simp only [Thr.lv,Req.lv,ends,thrEnd] at hg he3
      cases w2
      ·rw [if_neg (by simp)]
       simp only [Thr.lv,Req.lv,ends,thrEnd]
       repeat' (first|(with_reducible first|refine uk ?_|refine wk ?_ ?_<;>intro _|(refine dr P199 mixed ?_ ?_ ?_;kernel_rfl;kernel_rfl)|refine andC ?_ ?_|refine callE hne ?_|refine callE hki ?_|refine callC hg (fun v2 hv2=>?_)|refine callE he3 ?_)|simp -implicitDefEqProofs(disch:=first|assumption|omega)[*])
       all_goals exact Ends.eqat rfl (by simp) (hG.1.trans hv2)
      ·rw [if_pos rfl]
       simp only [Thr.lv,Req.lv]
       repeat' (first|(with_reducible first|refine uk ?_|refine wk ?_ ?_<;>intro _|(refine dr P199 mixed ?_ ?_ ?_;kernel_rfl;kernel_rfl)|refine andC ?_ ?_|refine callE hne ?_|refine callE hki ?_|refine callC hg (fun v2 hv2=>?_))|simp -implicitDefEqProofs(disch:=first|assumption|omega)[*])
       all_goals exact Ends.eqat rfl (by simp) (hG.1.trans hv2)
     by_cases c26:op=26
     ·subst c26
      have he3:=ends_p 0
      rw [show act p out ⟨26,a⟩ L=ends 0 from by simp [act]]
      simp only [Thr.lv,Req.lv,ends,thrEnd] at he3 ⊢
      repeat' (first|(with_reducible first|refine uk ?_|refine wk ?_ ?_<;>intro _|(refine dr P199 mixed ?_ ?_ ?_;kernel_rfl;kernel_rfl)|refine andC ?_ ?_|refine callE hne ?_|refine callE hki ?_|refine callE he3 ?_)|simp -implicitDefEqProofs(disch:=first|assumption|omega)[*])
      all_goals exact Ends.eqat rfl (by simp) hG.1
     rw [show act p out ⟨op,a⟩ L=(out,⟨0,0,0⟩) from by simp [act, *]]
     simp only [Thr.lv,Req.lv]
     repeat' (first|(with_reducible first|refine uk ?_|refine wk ?_ ?_<;>intro _|(refine dr P199 mixed ?_ ?_ ?_;kernel_rfl;kernel_rfl)|refine andC ?_ ?_|refine callE hne ?_|refine callE hki ?_)|simp -implicitDefEqProofs(disch:=first|assumption|omega)[*])
     all_goals exact Ends.eqat rfl (by simp) hG.1)
end
def EndC (n:Nat):Prop:=∀ B x t code,B≤10000→0≤t→t<(x.c.threads.length:Int)→count2 x.c<n→XsE B x→PureC Tryz.prog 246 [.agg x.lv,.int .i64 t,.int .i64 code] (.agg (endX n x t code).lv)
theorem xtell_p {n B:Nat} (hE:EndC n) {x:Xs} {t:Int} {l:List Int} (hB:B≤10000) (h0:0≤t) (h1:t<x.c.threads.length) (hc:count2 x.c<n) (h:XsE B x) (hl:l.length≤1000) :
  PureC Tryz.prog 273 [.agg x.lv,.int .i64 t,row l] (.agg (tellX n x t l).lv):=by
 refine .of fun s v=>?_
 have he:=hE B x t 2 hB h0 h1 hc h
 have ht:=tell_p (at' x.c.threads t) (h.thr _ (at_mem h0 h1)) l hl
 have hx:=ix_in h0 h1
 have hn:=h.n
 have hw:=fun y=>with_p (c:=x.c) (t:=t) (x:=y) hn h0 h1
 by_cases hok:(thrTell (at' x.c.threads t) l).2=true
 ·rw [show tellX n x t l = {x with c:=withT x.c t (thrTell (at' x.c.threads t) l).1 } from by unfold tellX;rw [if_pos hok]]
  rw [hok] at ht
  clear hok
  generalize (thrTell (at' x.c.threads t) l).1=y at *
  replace hw:=hw y
  generalize withT x.c t y=z at *
  clear he
  obtain⟨p,c,xt,seen,woken⟩:=x
  simp only [Xs.lv,Prog.lv,Cor.lv,Thr.lv,at',List.cons_append,List.nil_append] at ht hw hx ⊢
  refine ac0 Tryz.func273 Tryz.ntmps273 ?_
  have hrs:Tryz.f273.results = #[.cell 6 226]:=rfl
  repeat' (first|(with_reducible first|refine uk ?_|refine wk ?_ ?_<;>intro _|refine andC ?_ ?_|refine callC ht (fun v1 hv1=>?_)|refine callE hw ?_)|simp -implicitDefEqProofs(disch:=first|assumption|omega)[*])
  all_goals exact Ends.eqat rfl (by simp) hv1
 ·rw [show tellX n x t l=endX n x t 2 from by unfold tellX;rw [if_neg hok]]
  rw [Bool.eq_false_iff.2 hok] at ht
  clear hok hw
  generalize (thrTell (at' x.c.threads t) l).1=y at *
  generalize endX n x t 2=u at *
  obtain⟨p,c,xt,seen,woken⟩:=x
  simp only [Xs.lv,Prog.lv,Cor.lv,Thr.lv,at',List.cons_append,List.nil_append] at ht he hx ⊢
  refine ac0 Tryz.func273 Tryz.ntmps273 ?_
  have hrs:Tryz.f273.results = #[.cell 6 226]:=rfl
  repeat' (first|(with_reducible first|refine uk ?_|refine wk ?_ ?_<;>intro _|refine andC ?_ ?_|refine callC ht (fun v1 hv1=>?_)|refine callC he (fun v2 hv2=>?_))|simp -implicitDefEqProofs(disch:=first|assumption|omega)[*])
  all_goals exact Ends.eqat rfl (by simp) (hv1.trans hv2)
theorem callWC {P:Program} {f:FuncId} {args args':List LV} {s:List AObj} {v:List Nat} {y:LV} {K:LV→List AObj→List Nat→Prop} (h:PureC P f args' y) (hw:Weaks args args') (k:∀ v',v <+: v'→K y s v'):aCalls P f args s v K:=aCalls_argw hw (callC h k)
theorem xwakeN_p {x:Xs} {t:Int} {l:List Int} (h0:t<0):PureC Tryz.prog 272 [.agg x.lv,.int .i64 t,row l] (.agg x.lv):=by
 refine .of fun s v=>?_
 obtain⟨p,c,xt,seen,woken⟩:=x
 simp only [Xs.lv,Prog.lv,Cor.lv,List.cons_append,List.nil_append]
 refine ac0 Tryz.func272 Tryz.ntmps272 ?_
 have hrs:Tryz.f272.results = #[.cell 6 226]:=rfl
 repeat' (first|(with_reducible first|refine uk ?_|refine wk ?_ ?_<;>intro _)|simp -implicitDefEqProofs(disch:=first|assumption|omega)[*])
 exact Ends.eqat rfl (by simp) (List.prefix_refl _)
theorem xwake0_p {x u:Xs} {t:Int} {l:List Int} (hb:x.woken.length≤100000) (hn:x.c.threads.length≤1000) (h0:0≤t) (h1:t<x.c.threads.length)
  (ht:PureC Tryz.prog 273 [.agg (restX {x with woken:=x.woken++[t] } t 0 0).lv,.int .i64 t,row l] (.agg u.lv)):PureC Tryz.prog 272 [.agg x.lv,.int .i64 t,row l] (.agg u.lv):=by
 refine .of fun s v=>?_
 have hr:=rest_p (x:={x with woken:=x.woken++[t] }) (t:=t) (st:=0) (on:=0) hn h0 h1
 generalize restX {x with woken:=x.woken++[t] } t 0 0=z at *
 obtain⟨p,c,xt,seen,woken⟩:=x
 simp only at hb hn h1
 have h0':¬ t<0:=by omega
 obtain⟨x1,v1,g1,_,ga⟩:=(GroE.nil v (α:=Int)).appr (P:=Tryz.prog) (t:=23) (t2:=23) (by_:=8) (by kernel_rfl) (by omega) woken (by simp;omega)
 obtain⟨x2,v2,g2,_,gb⟩:=g1.push (P:=Tryz.prog) (t:=23) (t2:=23) (sz:=1) (by_:=8) (by kernel_rfl) rfl (by omega) t (by simp;omega)
 simp only [enc_int,List.nil_append] at gb g2
 have c1:=g1.gro.cells
 have c2:=g2.gro.cells
 have hw2:=g2.gro.weak
 have hpre:=g2.1
 simp only [Xs.lv,Prog.lv,Cor.lv,List.cons_append,List.nil_append] at ht hr ⊢
 refine ac0 Tryz.func272 Tryz.ntmps272 ?_
 have hrs:Tryz.f272.results = #[.cell 6 226]:=rfl
 repeat' (first|(with_reducible first|refine uk ?_|refine wk ?_ ?_<;>intro _|refine andC ?_ ?_|refine callWC hr (by simp [hw2]) (fun v3 hv3=>?_)|refine callC ht (fun v4 hv4=>?_))|simp -implicitDefEqProofs(disch:=first|assumption|omega)[*])
 all_goals exact Ends.eqat rfl (by simp) (hpre.trans (hv3.trans hv4))
theorem xwake2_p {B n:Nat} (hE:EndC n) (hB:B≤10000) {x:Xs} {k:Nat} {l:List Int} (h1:k<x.c.threads.length) (hs:(nth x.c.threads k).state=2) (hc:count2 x.c≤n) (h:XsB B x) (hl:l.length≤1000) :
  PureC Tryz.prog 272 [.agg x.lv,.int .i64 k,row l] (.agg (wakeX n x k l).lv):=by
 have h1':(k:Int)<x.c.threads.length:=by omega
 have hr:=rest_c2 (x:={x with woken:=x.woken++[(k:Int)] }) (t:=k) 0 (st:=0) (by omega) (by omega) h1'
 have hs':(at' x.c.threads (k:Int)).state=2:=hs
 simp only [hs',if_true] at hr
 have hw:=h.woken
 have hl':=rest_len {x with woken:=x.woken++[(k:Int)] } k 0 0
 have hX:XsE B (restX {x with woken:=x.woken++[(k:Int)] } k 0 0):=by
  refine⟨by rw [hl'];exact h.n,rest_b h.thr (by omega) h1',?_,?_⟩
  ·show x.seen.length+1+count2 (restX {x with woken:=x.woken++[(k:Int)] } k 0 0).c≤B
   have:=h.seen;omega
  ·show (x.woken++[(k:Int)]).length+count2 (restX {x with woken:=x.woken++[(k:Int)] } k 0 0).c≤B
   simp;omega
 unfold wakeX
 rw [if_neg (by omega)]
 exact xwake0_p (by omega) h.n (by omega) h1' (xtell_p hE hB (by omega) (by rw [hl'];exact h1') (by omega) hX hl)
theorem xwake_p {B n:Nat} (hE:EndC n) (hB:B≤10000) {x:Xs} {t:Int} {l:List Int} (h1:t<x.c.threads.length) (hc:count2 x.c<n) (h:XsE B x) (hw:x.woken.length+1+count2 x.c≤B) (hl:l.length≤1000) :
  PureC Tryz.prog 272 [.agg x.lv,.int .i64 t,row l] (.agg (wakeX n x t l).lv):=by
 unfold wakeX
 by_cases h0:t<0
 ·rw [if_pos h0];exact xwakeN_p h0
 rw [if_neg h0]
 have hr:=rest_c2 (x:={x with woken:=x.woken++[t] }) (t:=t) 0 (st:=0) (by omega) (by omega) h1
 have hl':=rest_len {x with woken:=x.woken++[t] } t 0 0
 have hX:XsE B (restX {x with woken:=x.woken++[t] } t 0 0):=by
  refine⟨by rw [hl'];exact h.n,rest_b h.thr (by omega) h1,?_,?_⟩
  ·show x.seen.length+1+count2 (restX {x with woken:=x.woken++[t] } t 0 0).c≤B
   have:=h.seen;simp only at hr;omega
  ·show (x.woken++[t]).length+count2 (restX {x with woken:=x.woken++[t] } t 0 0).c≤B
   simp only at hr;simp;omega
 exact xwake0_p (by omega) h.n (by omega) h1 (xtell_p hE hB (by omega) (by rw [hl'];exact h1) (by simp only at hr;omega) hX hl)
def endK (n:Nat) (code t:Int) (x:Xs) (k:Nat):Xs:=endL n code t (List.range k) (end0 x t code)
theorem endK_succ (n:Nat) (code t:Int) (x:Xs) (k:Nat):endK n code t x (k+1)=if (nth (endK n code t x k).c.threads k).state=2∧(nth (endK n code t x k).c.threads k).on=t then wakeX n (endK n code t x k) k [code] else endK n code t x k:=by
 unfold endK
 rw [List.range_succ,endL_app,endL,endL]
theorem Xs.lv' (x:Xs):x.lv=[row x.p.funcs,.int .i64 x.p.mutexes,row x.p.conds,row x.p.semas,row x.p.chans,row x.p.choices,.int .i64 x.p.threads,.int .i64 x.c.now,row x.c.threads,row x.c.owners,row x.c.counts,row x.c.bufs,row x.c.lockq,row x.c.waitq,row x.c.downq,row x.c.sendq,row x.c.recvq,.int .i64 x.t,row x.seen,row x.woken]:=rfl
def Z20:List LV:=[.nils,.int .i64 0,.nils,.nils,.nils,.nils,.int .i64 0,.int .i64 0,.nils,.nils,.nils,.nils,.nils,.nils,.nils,.nils,.nils,.int .i64 0,.nils,.nils]
theorem xend_p {n:Nat} (hE:EndC n):EndC (n+1):=fun B x t code hB h0 h1 hc h=>by
 refine .of fun s v=>?_
 have hk0:=end0_keeps (code:=code) h0 h1 h
 have hK:∀ k,k≤x.c.threads.length→Keeps B (end0 x t code) (endK n code t x k):=fun k hk=>endL_keeps (end_keeps B n) _ _ (fun j hj=>by rw [hk0.len];simp at hj;omega) (by have:=hk0.c2;omega) hk0.b
 have hn:=h.n
 have hsn:=h.seen
 have hwT:=with_p (c:=x.c) (t:=t) (x:=thrEnd code) hn h0 h1
 have hse:=see_p (x:={x with c:=withT x.c t (thrEnd code) }) (k:=2) (t:=t) (n:=code) (by show x.seen.length≤_;omega)
 have he:=thrEnd_p code
 have h00:seeX {x with c:=withT x.c t (thrEnd code) } 2 t code=endK n code t x 0:=by unfold endK;rw [List.range_zero,endL];rfl
 rw [h00] at hse
 rw [endX_succ]
 have hfin:endL n code t (List.range (end0 x t code).c.threads.length) (end0 x t code)=endK n code t x (end0 x t code).c.threads.length:=rfl
 rw [hfin]
 clear hfin
 have hlen:(end0 x t code).c.threads.length=x.c.threads.length:=hk0.len
 rw [hlen]
 generalize hy0:endK n code t x 0=y0 at *
 generalize withT x.c t (thrEnd code)=c1 at *
 simp only [Cor.lv,Thr.lv,thrEnd,Xs.lv'] at hwT he hse ⊢
 refine ac0 Tryz.func246 Tryz.ntmps246 ?_
 have hrs:Tryz.f246.results = #[.cell 6 226]:=rfl
 repeat' (first|(with_reducible first|refine uk ?_|refine wk ?_ ?_<;>intro _|(refine dr P246 mixed ?_ ?_ ?_;kernel_rfl;kernel_rfl)|refine andC ?_ ?_|refine callE he ?_|refine callE hwT ?_|refine callC hse (fun v1 hv1=>?_))|simp -implicitDefEqProofs(disch:=first|assumption|omega)[*])
 refine aW_for (β:=List Nat) false x.c.threads.length (fun k p=>v <+: p) (fun k p=>[(7,.int .i64 k),(19,.any),(20,.any),(21,.any),(22,.any),(23,.any),(24,.any),(27,.any),(28,.any),(29,.any),(30,.any),(31,.any),(32,.any),(33,.any),(34,.any),(35,.any),(36,.any),(37,.any),(38,.any),(39,.any),(40,.any),(41,.any),(42,.any),(43,.any),(44,.any),(45,.any),(46,.any),(47,.any),(48,.any),(49,.any),(50,.any),(25,.any),(26,.any)]) (fun k p=>s++[.cells (endK n code t x k).lv,.cells Z20]) (fun k p=>p) ?_ ?_
 ·exact⟨v1,hv1,fz0,by rw [hy0];rfl,rfl⟩
 rintro k v2 hk hv2
 replace hv2:v <+: v2:=hv2
 have hKk:=hK k hk
 have hklen:(endK n code t x k).c.threads.length=x.c.threads.length:=hKk.len.trans hlen
 have hsucc:=endK_succ n code t x k
 by_cases hlt:k<x.c.threads.length
 ·clear he hwT hse hy0
  have hxk:=ix_in (l:=(endK n code t x k).c.threads) (i:=(k:Int)) (by omega) (by omega)
  by_cases hst:(nth (endK n code t x k).c.threads k).state=2
  ·by_cases hon:(nth (endK n code t x k).c.threads k).on=t
   ·rw [if_pos ⟨hst,hon⟩] at hsucc
    have hw:=xwake2_p hE hB (l:=[code]) (by rw [hklen];exact hlt) hst (by have:=hKk.c2;have:=hk0.c2;omega) hKk.b (by simp)
    rw [← hsucc] at hw
    have hwk:Weak (.imm 1 1 [.int .i64 code] .full) (row [code]):=Weak.row (l:=[code]) (Weaks.refl _) rfl
    generalize hz:endK n code t x (k+1)=z at *
    generalize endK n code t x k=y at *
    simp only [Xs.lv'] at hw ⊢
    clear hsucc
    repeat' (first|(with_reducible first|refine uk ?_|refine wk ?_ ?_<;>intro _|(refine dr P246 mixed ?_ ?_ ?_;kernel_rfl;kernel_rfl)|refine andC ?_ ?_|refine callWC hw (by simp [hwk]) (fun v3 hv3=>?_))|simp -implicitDefEqProofs(disch:=first|assumption|omega)[*])
    all_goals exact⟨hlt,v3,hv2.trans hv3,fz,by simp [hz],rfl⟩
   ·rw [if_neg (fun h=>hon h.2)] at hsucc
    rw [← hsucc] at hst hon hxk hklen
    generalize hz:endK n code t x (k+1)=z at *
    rw [← hsucc]
    clear hsucc
    simp only [Xs.lv']
    repeat' (first|(with_reducible first|refine uk ?_|refine wk ?_ ?_<;>intro _|(refine dr P246 mixed ?_ ?_ ?_;kernel_rfl;kernel_rfl)|refine andC ?_ ?_)|simp -implicitDefEqProofs(disch:=first|assumption|omega)[*])
    all_goals exact⟨hlt,v2,hv2,fz,by simp [hz],rfl⟩
  ·rw [if_neg (fun h=>hst h.1)] at hsucc
   rw [← hsucc] at hst hxk hklen
   generalize hz:endK n code t x (k+1)=z at *
   rw [← hsucc]
   clear hsucc
   simp only [Xs.lv']
   repeat' (first|(with_reducible first|refine uk ?_|refine wk ?_ ?_<;>intro _|(refine dr P246 mixed ?_ ?_ ?_;kernel_rfl;kernel_rfl)|refine andC ?_ ?_)|simp -implicitDefEqProofs(disch:=first|assumption|omega)[*])
   all_goals exact⟨hlt,v2,hv2,fz,by simp [hz],rfl⟩
 ·have hke:k=x.c.threads.length:=by omega
  subst hke
  clear he hwT hse hy0 hsucc
  show go _ ⟨⟩ ⟨upds _ _,s++[.cells (endK n code t x x.c.threads.length).lv,.cells Z20],v2⟩
  generalize endK n code t x x.c.threads.length=y at *
  simp only [Xs.lv',Z20]
  repeat' (first|(with_reducible first|refine uk ?_|refine wk ?_ ?_<;>intro _|(refine dr P246 mixed ?_ ?_ ?_;kernel_rfl;kernel_rfl)|refine andC ?_ ?_)|simp -implicitDefEqProofs(disch:=first|assumption|omega)[*])
  all_goals exact Ends.eqat rfl (by simp) hv2
theorem xends_p:∀ n,EndC n
 | 0=>fun B x t code _ _ _ h=>absurd h (by omega)
 | n+1=>xend_p (xends_p n)
end Go.Hb
end
