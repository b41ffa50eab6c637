/-
  A layer for reasoning about the program's calls, and contracts of its functions. CONDITIONS: none; each theorem bears its own.
-/
import Derived.Test.YtieoaonaijbijaaGreatG17
set_option linter.unusedVariables false
set_option linter.unusedSimpArgs false
section
namespace Go.Hb
open Go Go.Proofs Go.RowKit
set_option maxRecDepth 100000
set_option maxHeartbeats 800000
attribute [-simp] aC aL aOper aThen aInBlock aIf aPlan aAppend aLen aIndexAddr aSlice aCells aBounds lBr aq initT aev aAppendOwn aAppendNil aAppendNew aAppendRef LV.cells LV.cellsOk getElem?_pos getElem?_neg
theorem rclone_o {fr:List Frm} {sk:List Int} {st on co:Int} (hb:ThrB ⟨st,on,fr,sk,co⟩) {s:List AObj} {v:List Nat} : aCalls Tryz.prog 107 [.agg [.int .i64 st,.int .i64 on,row fr,row sk,.int .i64 co]] s v (CloneT ⟨st,on,fr,sk,co⟩ s v):=by
 obtain⟨hb1,hb2,hb3⟩:=hb
 simp only at hb1 hb2 hb3
 refine ac1 Tryz.func107 Tryz.ntmps107 ?_
 have hrs:Tryz.f107.results = #[.cell 2 73]:=rfl
 repeat' (first|(with_reducible first|refine uk ?_|refine wk ?_ ?_<;>intro _)|simp -implicitDefEqProofs(disch:=first|assumption|omega)[*])
 refine aW_for (β:=List AObj × List Nat × List LV × LV × Nat) true fr.length (fun k p=>FrmsO (s++(.cells [.int .i64 st,.int .i64 on,row fr,row sk,.int .i64 co] :: .cells [.int .i64 0,.int .i64 0,.nils,.nils,.int .i64 0] :: p.1)) (s.length+2) (fr.take k) p.2.1 p.2.2.1 p.2.2.2.1 p.2.2.2.2) (fun k p=>[(3,p.2.2.2.1),(4,.int .i64 k),(8,.any),(9,.any),(10,.any),(11,.any),(12,.any),(15,.any),(16,.any),(17,.any),(18,.any),(19,.any),(5,.any),(6,.any),(20,.any),(21,.any),(22,.any),(23,.any),(24,.any),(25,.any),(26,.any),(27,.any),(28,.any),(13,.any),(14,.any)]) (fun _ p=>s++(.cells [.int .i64 st,.int .i64 on,row fr,row sk,.int .i64 co] :: .cells [.int .i64 0,.int .i64 0,.nils,.nils,.int .i64 0] :: p.1)) (fun _ p=>v) ?_ ?_
 ·exact⟨([],[],[],.nils,s.length+2),frms_nil _ _,fz0,rfl,rfl⟩
 rintro k ⟨J,ids,r,xF,iF⟩ hk hF
 simp only at hF
 by_cases hlt:k<fr.length
 ·have hlc:=hb3 _ (nth_mem hlt)
  have hx:=ix_in (l:=fr) (i:=(k:Int)) (by omega) (by omega)
  have htk:(fr.take k).length=k:=by simp;omega
  obtain⟨x1,J1,ha1,hJ1⟩:=own_nil (P:=Tryz.prog) (t:=23) (t2:=23) (sz:=1) (by_:=8) (by kernel_rfl) rfl (by omega) (l:=(nth fr k).locals) (by unfold maxLen;omega) (by omega) (s++(.cells [.int .i64 st,.int .i64 on,row fr,row sk,.int .i64 co] :: .cells [.int .i64 0,.int .i64 0,.nils,.nils,.int .i64 0] :: (J++[AObj.cells [.int .i64 (nth fr k).func,.int .i64 (nth fr k).pc,row (nth fr k).locals]])))
  obtain⟨iL,hiL1,hx1⟩:∃ iL,(s.length+(J.length+2)≤iL∧iL<s.length+((J++AObj.cells [.int .i64 (nth fr k).func,.int .i64 (nth fr k).pc,x1] :: J1).length+2))∧RowR (s++(.cells [.int .i64 st,.int .i64 on,row fr,row sk,.int .i64 co] :: .cells [.int .i64 0,.int .i64 0,.nils,.nils,.int .i64 0] :: (J++AObj.cells [.int .i64 (nth fr k).func,.int .i64 (nth fr k).pc,x1] :: J1))) 1 (nth fr k).locals.length (rowCs (nth fr k).locals) x1 iL:=by
   rcases hJ1 with ⟨e1,rfl,rfl⟩ | ⟨e1,rfl,rfl⟩
   ·rw [e1];exact⟨s.length+(J.length+2),⟨by omega,by simp⟩,.inl ⟨rfl,rfl,rfl⟩⟩
   ·have hl1:(nth fr k).locals.length≠0:=fun e=>e1 (List.length_eq_zero_iff.1 e)
    refine⟨s.length+(J.length+1+2),⟨by omega,by simp⟩,.inr ⟨hl1,rowCs_ne (by simp) e1,by simp,?_,by rw [rowCs_len];simp⟩⟩
    rw [layB_get,List.getElem?_append_right (by omega)];simp
  have c1:=hx1.cells
  obtain⟨J2,ids2,hf,hF2⟩:=frms_step (P:=Tryz.prog) (t:=71) (t2:=71) (by kernel_rfl) (J1:=J++AObj.cells [.int .i64 (nth fr k).func,.int .i64 (nth fr k).pc,x1] :: J1) hF htk (by omega) (fun d hd=>List.getElem?_append_left hd) (by simp) hx1 hiL1
  clear hJ1
  repeat' (first|(with_reducible first|refine uk ?_|refine wk ?_ ?_<;>intro _)|simp -implicitDefEqProofs(disch:=first|assumption|omega)[*])
  exact⟨hlt,(J2,ids2,r++[.int .i64 (nth fr k).func,.int .i64 (nth fr k).pc,x1],.ref 3 (s.length+((J++AObj.cells [.int .i64 (nth fr k).func,.int .i64 (nth fr k).pc,x1] :: J1).length+2)) 0 (k+1) false,s.length+((J++AObj.cells [.int .i64 (nth fr k).func,.int .i64 (nth fr k).pc,x1] :: J1).length+2)),
   by show FrmsO _ _ (fr.take (k+1)) _ _ _ _;rw [take_succ_nth hlt];exact hF2,fz,by simp,rfl⟩
 ·have:k=fr.length:=by omega
  subst this
  rw [List.take_of_length_le (Nat.le_refl _)] at hF
  have cF:=hF.frames.cells
  obtain⟨x1,J3,ha3,hJ3⟩:=own_nil (P:=Tryz.prog) (t:=23) (t2:=23) (sz:=1) (by_:=8) (by kernel_rfl) rfl (by omega) (l:=sk) (by unfold maxLen;omega) (by omega) (s++(.cells [.int .i64 st,.int .i64 on,xF,row sk,.int .i64 co] :: .cells [.int .i64 0,.int .i64 0,.nils,.nils,.int .i64 0] :: J))
  have c1:x1.cells=[x1]∧x1.cellsOk=true:=by rcases hJ3 with ⟨_,rfl,_⟩ | ⟨_,rfl,_⟩<;>exact⟨rfl,rfl⟩
  have hend:=fun a' b' v=>cloneT_end (t:=⟨st,on,fr,sk,co⟩) (x1:=x1) (J3:=J3) (a':=a') (b':=b') (v:=v) hF (by simpa using hJ3)
  clear hJ3
  repeat' (first|(with_reducible first|refine uk ?_|refine wk ?_ ?_<;>intro _)|simp -implicitDefEqProofs(disch:=first|assumption|omega)[*])
theorem callT {t:Thr} {f:FuncId} {args:List LV} {s:List AObj} {v:List Nat} {K:LV→List AObj→List Nat→Prop} (h:aCalls Tryz.prog f args s v (CloneT t s v))
  (k:∀ J ids r xF xS dF dS,(xF.cells=[xF]∧xF.cellsOk=true)→(xS.cells=[xS]∧xS.cellsOk=true)→FrmsO (s++J) s.length t.frames ids r xF (s.length+dF)→
   RowR (s++J) 1 t.stack.length (rowCs t.stack) xS (s.length+dS)→(t.stack.length≠0→∀ id∈ids,id≠s.length+dS)→(t.frames.length≠0→t.stack.length≠0→dF≠dS)→
   K (.agg [.int .i64 t.state,.int .i64 t.on,xF,xS,.int .i64 t.code]) (s++J) v):aCalls Tryz.prog f args s v K:=by
 refine aCalls_mono h ?_
 rintro y s' v' ⟨rfl,J,ids,r,xF,xS,dF,dS,rfl,rfl,h1,h2,h3,h4⟩
 exact k J ids r xF xS dF dS h1.frames.cells h2.cells h1 h2 h3 h4
theorem jump_p {fr:List Frm} {sk:List Int} {st on co pc:Int} (hb:ThrB ⟨st,on,fr,sk,co⟩) (h0:fr≠[]):PureE Tryz.prog 236 [.agg [.int .i64 st,.int .i64 on,row fr,row sk,.int .i64 co],.int .i64 pc] (.agg (jump ⟨st,on,fr,sk,co⟩ pc).lv):=by
 intro s v
 have hb':=hb
 obtain⟨hb1,hb2,hb3⟩:=hb'
 simp only at hb1 hb2 hb3
 have hf0:fr.length≠0:=fun e=>h0 (List.length_eq_zero_iff.1 e)
 refine aCalls_deep ?_
 refine ac0 Tryz.func236 Tryz.ntmps236 ?_
 have hrs:Tryz.f236.results = #[.cell 4 73]:=rfl
 have e1:((fr.length:Int) - 1).toNat=fr.length - 1:=by omega
 repeat' (first|(with_reducible first|refine uk ?_|refine wk ?_ ?_<;>intro _|refine callT (rclone_o hb) (fun J ids r xF xS dF dS cF cS hF hS hne1 hne2=>?_))|simp -implicitDefEqProofs(disch:=first|assumption|omega)[*])
 simp only at hF hS hne1 hne2
 replace hF:=lay_of (P:=fun S b i=>FrmsO S b fr ids r xF i) hF
 replace hS:=lay_of (P:=fun S b i=>RowR S 1 sk.length (rowCs sk) xS i) hS
 replace hne1:sk.length≠0→∀ id∈ids,id≠s.length+(dS+2):=fun h id hi e=>hne1 h id hi (by simp;omega)
 obtain⟨hr0,hrne,rfl,hget,hrl⟩:=hF.frames.resolve_left fun h=>hf0 h.1
 have hJ:J[dF]? = some (.cells r):=by rw [layB_get] at hget;exact hget
 have hJX:∀ X,(J++[X])[dF]? = some (.cells r):=fun X=>by rw [List.getElem?_append_left (List.getElem?_eq_some_iff.1 hJ).1];exact hJ
 have hJS:∀ X o,(J++[X]).set dF o=J.set dF o++[X]:=fun X o=>by rw [List.set_append_left _ _ (List.getElem?_eq_some_iff.1 hJ).1]
 have hle:(fr.length - 1)*3+1+1≤r.length:=by omega
 have e2:s.length+2+dF=s.length+(dF+2):=by omega
 have hb0:(1:Int)≤fr.length:=by omega
 have hb0':(fr.length:Int) - 1<fr.length:=by omega
 have hle2:(fr.length - 1)*3+1+1≤fr.length*3:=by omega
 have hJL:∀ X o,(J.set dF o++[X])[J.length]? = some X:=fun X o=>by rw [List.getElem?_append_right (by simp)];simp
 have hS':=hS
 have hF':=hF
 clear hget hS hF
 repeat' (first|(with_reducible first|refine uk ?_|refine wk ?_ ?_<;>intro _)|simp -implicitDefEqProofs(disch:=first|assumption|omega)[*])
 clear hJX hJS hJL
 have hdF:=(List.getElem?_eq_some_iff.1 hJ).1
 have hid:∀ id∈ids,s.length+2≤id∧id<s.length+(J.length+2)∧id≠s.length+(dF+2):=fun id hi=>by
  have h:=hF'.ids id hi
  have h2:=h.2.2 hf0
  simp only [List.length_append,List.length_cons,List.length_nil] at h
  omega
 refine thr_deep (fr:=fr.set (fr.length - 1) {nth fr (fr.length - 1) with pc:=pc }) (ids:=ids) (iF:=s.length+(dF+2)) (iS:=s.length+(dS+2)) (FrmsV.keep (FrmsV.pc (pc:=pc) (fr.length - 1) hF'.fr (by omega)) fun i hi=>?_) (fun i hi=>by have:=(hid i hi).1;omega) ?_ (by simp) hf0 (by omega) (hS'.keep fun h0=>?_) (by omega)
 ·exact layB_other hdF (hid i hi).1 (hid i hi).2.1 (hid i hi).2.2
 ·rw [layB_get,List.getElem?_append_left (by simpa using hdF),List.getElem?_set_self hdF]
 ·have h1:=hS'.lt h0
  simp at h1
  exact layB_other hdF (by omega) (by omega) (by have:=hne2 hf0 h0;omega)
theorem setL_p {fr:List Frm} {sk:List Int} {st on co i x:Int} (hb:ThrB ⟨st,on,fr,sk,co⟩) (h0:fr≠[]) (hi0:0≤i) (hi1:i<(nth fr (fr.length - 1)).locals.length):PureE Tryz.prog 243 [.agg [.int .i64 st,.int .i64 on,row fr,row sk,.int .i64 co],.int .i64 i,.int .i64 x] (.agg (setL ⟨st,on,fr,sk,co⟩ i x).lv):=by
 intro s v
 have hb':=hb
 obtain⟨hb1,hb2,hb3⟩:=hb'
 simp only at hb1 hb2 hb3
 have hf0:fr.length≠0:=fun e=>h0 (List.length_eq_zero_iff.1 e)
 have hk:=keep_p x
 refine aCalls_deep ?_
 unfold setL topF
 simp only
 generalize keep x=kx at *
 refine ac0 Tryz.func243 Tryz.ntmps243 ?_
 have hrs:Tryz.f243.results = #[.cell 6 73]:=rfl
 have e1:((fr.length:Int) - 1).toNat=fr.length - 1:=by omega
 repeat' (first|(with_reducible first|refine uk ?_|refine wk ?_ ?_<;>intro _|(refine dr P243 mixed ?_ ?_ ?_;kernel_rfl;kernel_rfl)|refine callT (rclone_o hb) (fun J ids r xF xS dF dS cF cS hF hS hne1 hne2=>?_))|simp -implicitDefEqProofs(disch:=first|assumption|omega)[*])
 simp only at hF hS hne1 hne2
 replace hF:=lay_of (P:=fun S b i=>FrmsO S b fr ids r xF i) hF
 replace hS:=lay_of (P:=fun S b i=>RowR S 1 sk.length (rowCs sk) xS i) hS
 replace hne1:sk.length≠0→∀ id∈ids,id≠s.length+(dS+2):=fun h id hi e=>hne1 h id hi (by simp;omega)
 obtain⟨hr0,hrne,rfl,hget,hrl⟩:=hF.frames.resolve_left fun h=>hf0 h.1
 have hJ:J[dF]? = some (.cells r):=by rw [layB_get] at hget;exact hget
 have hdF:=(List.getElem?_eq_some_iff.1 hJ).1
 obtain⟨xL,idL,hidL,h3,hL⟩:=FrmsV.get (fr.length - 1) hF.fr (by omega)
 have hmem:=List.mem_of_getElem? hidL
 have hlo:(nth fr (fr.length - 1)).locals.length≠0:=by omega
 obtain⟨_,hLne,rfl,hgetL,hLl⟩:=hL.resolve_left fun h=>hlo h.1
 have hid:∀ id∈ids,s.length+2≤id∧id<s.length+(J.length+2)∧id≠s.length+(dF+2):=fun id hi=>by
  have h:=hF.ids id hi
  have h2:=h.2.2 hf0
  simp only [List.length_append,List.length_cons,List.length_nil] at h
  omega
 obtain⟨dL,rfl⟩:∃ d,idL=s.length+(d+2):=⟨idL - (s.length+2),by have:=hid _ hmem;omega⟩
 have hJL:J[dL]? = some (.cells (rowCs (nth fr (fr.length - 1)).locals)):=by rw [layB_get] at hgetL;exact hgetL
 have hdL:=(List.getElem?_eq_some_iff.1 hJL).1
 have h3':=third_at h3
 have hJX:∀ X,(J++[X])[dF]? = some (.cells r):=fun X=>by rw [List.getElem?_append_left hdF];exact hJ
 have hJX2:∀ X,(J++[X])[dL]? = some (.cells (rowCs (nth fr (fr.length - 1)).locals)):=fun X=>by rw [List.getElem?_append_left hdL];exact hJL
 have hJS:∀ X o,(J++[X]).set dL o=J.set dL o++[X]:=fun X o=>by rw [List.set_append_left _ _ hdL]
 have hJLx:∀ X o,(J.set dL o++[X])[J.length]? = some X:=fun X o=>by rw [List.getElem?_append_right (by simp)];simp
 have hle:(fr.length - 1)*3+2+1≤r.length:=by omega
 have hle2:(fr.length - 1)*3+2+1≤fr.length*3:=by omega
 have e2:s.length+2+dF=s.length+(dF+2):=by omega
 have hb0:(1:Int)≤fr.length:=by omega
 have hb0':(fr.length:Int) - 1<fr.length:=by omega
 have hS':=hS
 have hF':=hF
 have hL':=hL
 have hi2:i.toNat+1≤(nth fr (fr.length - 1)).locals.length:=by omega
 clear hget hS hF hgetL hL
 generalize hlo':(nth fr (fr.length - 1)).locals=lo at *
 repeat' (first|(with_reducible first|refine uk ?_|refine wk ?_ ?_<;>intro _|(refine dr P243 mixed ?_ ?_ ?_;kernel_rfl;kernel_rfl)|refine callE hk ?_)|simp -implicitDefEqProofs(disch:=first|assumption|omega)[*])
 have hLF:=(hid _ hmem).2.2
 rw [rowCs_set]
 refine thr_deep (fr:=fr.set (fr.length - 1) {nth fr (fr.length - 1) with locals:=lo.set i.toNat kx }) (ids:=ids) (r:=r) (iF:=s.length+(dF+2)) (iS:=s.length+(dS+2))
  (FrmsV.put (fr.length - 1) (s.length+(dL+2)) hF'.fr hidL hF'.nodup (fun j hj hne=>layB_other hdL (hid j hj).1 (hid j hj).2.1 hne) (by simp [hlo']) fun _=>?_) (fun i hi=>by have:=(hid i hi).1;omega) ?_ (by simp) hf0 (by omega) (hS'.keep fun h0=>?_) (by omega)
 ·rw [layB_get,List.getElem?_append_left (by simpa using hdL),List.getElem?_set_self hdL]
 ·exact(layB_other (a:=.cells []) (b:=.cells []) hdL (by omega) (by omega) (by omega)).trans (by rw [layB_get];exact hJ)
 ·have h1:=hS'.lt h0
  simp at h1
  exact layB_other hdL (by omega) (by omega) (by have:=hne1 h0 _ hmem;omega)
section
attribute [local simp] Thr.lv Req.lv Ins.lv Prog.lv thrEnd
theorem ends_p (c:Int):PureE Tryz.prog 235 [.int .i64 c] (.tup [.agg (ends c).1.lv,.agg (ends c).2.lv]):=by
 refine .of fun s v=>?_
 refine ac0 Tryz.func235 Tryz.ntmps235 ?_
 have hrs:Tryz.f235.results = #[.cell 2 73,.cell 3 222]:=rfl
 have he:=thrEnd_p c
 simp only [Thr.lv,thrEnd] at he
 repeat' (first|(with_reducible first|refine uk ?_|refine wk ?_ ?_<;>intro _|refine callE he ?_)|simp -implicitDefEqProofs(disch:=first|assumption|omega)[*])
 exact EndsE.eqat rfl (by simp)
theorem needs_p (op:Int):PureE Tryz.prog 237 [.int .i64 op] (.int .i64 (needs op)):=by
 refine .of fun s v=>?_
 refine ac0 Tryz.func237 Tryz.ntmps237 ?_
 have hrs:Tryz.f237.results = #[.tmp 2]:=rfl
 repeat' (first|(with_reducible first|refine uk ?_|refine wk ?_ ?_<;>intro _)|simp -implicitDefEqProofs(disch:=first|assumption|omega)[*])
 all_goals exact EndsE.eq (by simp [needs, *]) (by simp)
theorem kind_p (op:Int):PureE Tryz.prog 239 [.int .i64 op] (.int .i64 (kindOf op)):=by
 refine .of fun s v=>?_
 refine ac0 Tryz.func239 Tryz.ntmps239 ?_
 have hrs:Tryz.f239.results = #[.tmp 2]:=rfl
 repeat' (first|(with_reducible first|refine uk ?_|refine wk ?_ ?_<;>intro _)|simp -implicitDefEqProofs(disch:=first|assumption|omega)[*])
 all_goals exact EndsE.eq (by simp [kindOf, *]) (by simp)
theorem pushed_p (t:Thr) (hb:ThrB t) (x:Int):PureC Tryz.prog 240 [.agg t.lv,.int .i64 x] (.tup [.agg (pushed t x).1.lv,.agg (pushed t x).2.lv]):=by
 refine .of fun s v=>?_
 have hp:PureC Tryz.prog 241 [.agg t.lv,.int .i64 x] (.tup [.agg (push t x).1.lv,.bool (push t x).2]):=push_p (fr:=t.frames) (sk:=t.stack) hb
 have he:=ends_p 2
 unfold pushed
 generalize push t x=q at *
 obtain⟨t',is⟩:=q
 simp only [Thr.lv,Req.lv,ends] at hp he ⊢
 refine ac0 Tryz.func240 Tryz.ntmps240 ?_
 have hrs:Tryz.f240.results = #[.cell 4 73,.cell 5 222]:=rfl
 cases is
 ·repeat' (first|(with_reducible first|refine uk ?_|refine wk ?_ ?_<;>intro _|refine callC hp (fun v1 hv1=>?_)|refine callE he ?_)|simp -implicitDefEqProofs(disch:=first|assumption|omega)[*])
  exact Ends.eqat rfl (by simp) hv1
 ·repeat' (first|(with_reducible first|refine uk ?_|refine wk ?_ ?_<;>intro _|refine callC hp (fun v1 hv1=>?_))|simp -implicitDefEqProofs(disch:=first|assumption|omega)[*])
  exact Ends.eqat rfl (by simp) hv1
theorem tell_p (t:Thr) (hb:ThrB t) (l:List Int) (hl:l.length≤1000):PureC Tryz.prog 296 [.agg t.lv,row l] (.tup [.agg (thrTell t l).1.lv,.bool (thrTell t l).2]):=by
 refine .of fun s v=>?_
 have he:=thrEnd_p 2
 simp only [Thr.lv,thrEnd] at he
 refine ac0 Tryz.func296 Tryz.ntmps296 ?_
 have hrs:Tryz.f296.results = #[.cell 4 73,.tmp 5]:=rfl
 simp only [Thr.lv]
 repeat' (first|(with_reducible first|refine uk ?_|refine wk ?_ ?_<;>intro _|(refine dr P296 mixed ?_ ?_ ?_;kernel_rfl;kernel_rfl))|simp -implicitDefEqProofs(disch:=first|assumption|omega)[*])
 refine aW_for (β:=Thr × List AObj × List Nat) false l.length (fun k p=>v <+: p.2.2∧ThrB p.1∧thrTell t l=thrTell p.1 (l.drop k)) (fun k p=>[(7,.int .i64 k),(11,.any),(12,.any),(13,.any),(14,.any),(18,.any),(19,.any),(20,.any),(21,.any),(22,.any),(23,.any),(17,.any),(24,.any),(25,.any),(8,.any),(9,.any),(26,.any),(27,.any),(28,.any),(5,.any),(29,.any),(15,.any),(16,.any)]) (fun _ p=>s++(.cells [.int .i64 t.state,.int .i64 t.on,row t.frames,row t.stack,.int .i64 t.code] :: .cells [.int .i64 0,.int .i64 0,.nils,.nils,.int .i64 0] :: .cells [.int .i64 p.1.state,.int .i64 p.1.on,row p.1.frames,row p.1.stack,.int .i64 p.1.code] :: p.2.1)) (fun _ p=>p.2.2) ?_ ?_
 ·exact⟨(t,[],v),⟨List.prefix_refl _,hb,rfl⟩,fz0,rfl,rfl⟩
 rintro k ⟨t1,J,v1⟩ hk ⟨hv1,hb1,hI⟩
 simp only at hv1 hb1 hI
 by_cases hlt:k<l.length
 ·have hx:=ix_in (l:=l) (i:=(k:Int)) (by omega) (by omega)
  have hp:PureC Tryz.prog 241 [.agg t1.lv,.int .i64 (nth l k)] (.tup [.agg (push t1 (nth l k)).1.lv,.bool (push t1 (nth l k)).2]):=push_p (fr:=t1.frames) (sk:=t1.stack) hb1
  have hpb:=push_b hb1 (nth l k)
  rw [drop_nth hlt,thrTell] at hI
  generalize push t1 (nth l k)=q at *
  obtain⟨t',is⟩:=q
  simp only [Thr.lv] at hp hI hpb
  cases is
  ·simp only [Bool.false_eq_true,if_false] at hI
   rw [hI]
   repeat' (first|(with_reducible first|refine uk ?_|refine wk ?_ ?_<;>intro _|(refine dr P296 mixed ?_ ?_ ?_;kernel_rfl;kernel_rfl)|refine andC ?_ ?_|refine callC hp (fun v2 hv2=>?_)|refine callE he ?_)|simp -implicitDefEqProofs(disch:=first|assumption|omega)[*])
   all_goals exact Ends.eqat rfl (by simp) (hv1.trans hv2)
  ·simp only [if_true] at hI
   repeat' (first|(with_reducible first|refine uk ?_|refine wk ?_ ?_<;>intro _|(refine dr P296 mixed ?_ ?_ ?_;kernel_rfl;kernel_rfl)|refine andC ?_ ?_|refine callC hp (fun v2 hv2=>?_))|simp -implicitDefEqProofs(disch:=first|assumption|omega)[*])
   all_goals exact⟨hlt,(t',J++[.cells [.int .i64 t'.state,.int .i64 t'.on,row t'.frames,row t'.stack,.int .i64 t'.code]],v2),⟨hv1.trans hv2,hpb,hI⟩,fz,by simp,rfl⟩
 ·have:k=l.length:=by omega
  subst this
  rw [List.drop_length,thrTell] at hI
  rw [hI]
  repeat' (first|(with_reducible first|refine uk ?_|refine wk ?_ ?_<;>intro _|(refine dr P296 mixed ?_ ?_ ?_;kernel_rfl;kernel_rfl))|simp -implicitDefEqProofs(disch:=first|assumption|omega)[*])
  exact Ends.eqat rfl (by simp) hv1
end
end Go.Hb
end
