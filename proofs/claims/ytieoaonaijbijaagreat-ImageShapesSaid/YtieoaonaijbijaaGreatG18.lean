/-
  A layer for reasoning about the program's calls, and contracts of its functions. CONDITIONS: none; each theorem bears its own.
-/
import Derived.Test.YtieoaonaijbijaaGreatG17
import Derived.Test.YtieoaonaijbijaaGreatG11
import Derived.Test.YtieoaonaijbijaaGreatG07
set_option linter.unusedVariables false
set_option linter.unusedSimpArgs false
section
namespace Go.Hb
open Go Go.Proofs Go.RowKit
set_option maxRecDepth 100000
set_option maxHeartbeats 800000
attribute [-simp] aC aL xq yp zE aIf yr zR aLen zt ya zQ zP lBr aq yP aev zk zw zF zI LV.cells LV.cellsOk getElem?_pos getElem?_neg
@[simp] def P36:Nat→Plan
 | 2=>(.qs [0,1,2,3,4,5,6,7,8,9,10,11,12,13,14,15,16,17,18,19,20,21,22,23,24,25,26,27,28,29,30,31,32,33,34,35,36,37,38] (.w 39 [36] (.qs [40,41] .nil)))
 | 7=>(.qs [0,1,2,3,4,5] (.w 6 [] (.qs [7] .nil)))
 | _=>.nil
theorem zgB {p:Prog}{f:Frm}(hl:f.locals.length≤1000000):zM Tryz.prog 114 [.agg [row p.funcs,.int .i64 p.mutexes,row p.conds,row p.semas,row p.chans,row p.choices,.int .i64 p.threads],.agg [.int .i64 f.func,.int .i64 f.pc,row f.locals]] (.bool (frmK p f)):=by
 refine .of fun s v=>?_
 unfold frmK
 by_cases h0:f.func<0
 ·rw[if_pos (.inl h0)]
  refine ac0 Tryz.func114 Tryz.ntmps114 ?_
  have hrs:Tryz.f114.results = #[.tmp 4]:=rfl
  repeat' (first|(with_reducible first|refine uk ?_|refine wk ?_ ?_<;>intro _|refine And.intro ?_ ?_)|simp -implicitDefEqProofs(disch:=first|assumption|omega)[*])
  all_goals exact zn.eqat rfl (by simp)
 by_cases h1:(p.funcs.length:Int)≤f.func
 ·rw[if_pos (.inr h1)]
  refine ac0 Tryz.func114 Tryz.ntmps114 ?_
  have hrs:Tryz.f114.results = #[.tmp 4]:=rfl
  repeat' (first|(with_reducible first|refine uk ?_|refine wk ?_ ?_<;>intro _|refine And.intro ?_ ?_)|simp -implicitDefEqProofs(disch:=first|assumption|omega)[*])
  all_goals exact zn.eqat rfl (by simp)
 rw[if_neg (by omega)]
 have hx:=zB (l:=p.funcs) (i:=f.func) (by omega) (by omega)
 have hk:=ziz (l:=f.locals) (by omega)
 generalize vq f.locals=b at *
 refine ac0 Tryz.func114 Tryz.ntmps114 ?_
 have hrs:Tryz.f114.results = #[.tmp 4]:=rfl
 repeat' (first|(with_reducible first|refine uk ?_|refine wk ?_ ?_<;>intro _|refine And.intro ?_ ?_|refine zc hk ?_)|simp -implicitDefEqProofs(disch:=first|assumption|omega)[*])
 all_goals exact zn.eqat (by simp[*]) (by simp)
set_option maxHeartbeats 8000000 in
theorem zle {p:Prog}{t:Thr}(h1:t.frames.length≤1000000)(h2:t.stack.length≤1000000)(h3:∀ f∈t.frames,f.locals.length≤1000000):zM Tryz.prog 36 [.agg [row p.funcs,.int .i64 p.mutexes,row p.conds,row p.semas,row p.chans,row p.choices,.int .i64 p.threads],.agg t.lv] (.bool (thrK p t)):=by
 refine .of fun s v=>?_
 have hk:=ziz (l:=t.stack) (by omega)
 have hkp:=ZQ t.on
 unfold thrK
 by_cases h0:zaH t=true
 ·rw[if_pos h0]
  unfold zaH at h0
  obtain⟨st,on,fr,sk,co⟩:=t
  simp only[Thr.lv] at hk hkp h0 h1 h2 ⊢
  generalize vq sk=b at *
  generalize keep on=ko at *
  have hf1:decide (8<fr.length)=decide ((8:Int)<fr.length):=by rw[decide_eq_decide];omega
  have hf2:decide (16<sk.length)=decide ((16:Int)<sk.length):=by rw[decide_eq_decide];omega
  rw[hf1,hf2] at h0
  clear hf1 hf2 h1 h2 h3
  refine ac0 Tryz.func36 Tryz.ntmps36 ?_
  have hrs:Tryz.f36.results = #[.tmp 4]:=rfl
  repeat' (first|(with_reducible first|refine uk ?_|refine wk ?_ ?_<;>intro _|(refine dr P36 mixed ?_ ?_ ?_;kernel_rfl;kernel_rfl)|refine And.intro ?_ ?_|refine zc hk ?_|refine zc hkp ?_)|simp -implicitDefEqProofs(disch:=first|assumption|omega)[*])
  all_goals first|exact zn.eqat rfl (by simp)|(exfalso;revert h0;simp[*];done)|(exfalso;revert h0;simp[*]<;>omega)
 rw[if_neg h0]
 simp only[zaH,Bool.or_eq_true,decide_eq_true_eq,not_or,Bool.not_eq_true',Bool.not_eq_false,decide_eq_false_iff_not,Decidable.not_not] at h0
 obtain⟨⟨⟨⟨⟨⟨⟨a1,a2⟩,a3⟩,a4⟩,a5⟩,a6⟩,a7⟩,a8⟩:=h0
 obtain⟨st,on,fr,sk,co⟩:=t
 simp only[Thr.lv] at *
 rw[a7] at hk
 rw[← a8] at hkp
 have a5':¬ (8:Int)<fr.length:=by omega
 have a6':¬ (16:Int)<sk.length:=by omega
 clear a7 a8
 refine ac0 Tryz.func36 Tryz.ntmps36 ?_
 have hrs:Tryz.f36.results = #[.tmp 4]:=rfl
 repeat' (first|(with_reducible first|refine uk ?_|refine wk ?_ ?_<;>intro _|(refine dr P36 mixed ?_ ?_ ?_;kernel_rfl;kernel_rfl)|refine And.intro ?_ ?_|refine zc hk ?_|refine zc hkp ?_)|simp -implicitDefEqProofs(disch:=first|assumption|omega)[*])
 refine zC (β:=Unit) false fr.length (fun k _=>∀ j,j<k→frmK p (nth fr j)=true) (fun k _=>[(6,.int .i64 k),(53,.any),(54,.any),(55,.any),(56,.any),(57,.any),(60,.any),(61,.any),(62,.any),(63,.any),(64,.any),(65,.any),(66,.any),(7,.any),(67,.any),(68,.any),(4,.any),(58,.any),(59,.any)]) (fun _ _=>s++[.cells [row p.funcs,.int .i64 p.mutexes,row p.conds,row p.semas,row p.chans,row p.choices,.int .i64 p.threads],.cells [.int .i64 st,.int .i64 on,row fr,row sk,.int .i64 co]]) (fun _ _=>v) ?_ ?_
 ·exact⟨(),by simp,fz0,by simp,rfl⟩
 rintro k _ hk2 hI
 by_cases hlt:k<fr.length
 ·have hx:=zB (l:=fr) (i:=(k:Int)) (by omega) (by omega)
  rw[Int.toNat_natCast] at hx
  have hfr:=zgB (p:=p) (f:=nth fr k) (h3 _ (zm hlt))
  have hbad:frmK p (nth fr k)=false→fr.all (frmK p)=false:=fun h=>XF hlt h
  have hgo:frmK p (nth fr k)=true→∀ j,j<k+1→frmK p (nth fr j)=true:=fun hy j hj=>by
   by_cases e:j=k
   ·subst e;exact hy
   ·exact hI j (by omega)
  clear hI
  have hlt':(k:Int)<fr.length:=by omega
  generalize frmK p (nth fr k)=b at *
  cases b
  ·rw[if_pos (hbad rfl)]
   clear hbad hgo
   repeat' (first|(with_reducible first|refine uk ?_|refine wk ?_ ?_<;>intro _|(refine dr P36 mixed ?_ ?_ ?_;kernel_rfl;kernel_rfl)|refine And.intro ?_ ?_|refine zc hfr ?_)|simp -implicitDefEqProofs(disch:=first|assumption|omega)[*])
   all_goals exact zn.eqat rfl (by simp)
  ·have hg:=hgo rfl
   clear hbad hgo
   repeat' (first|(with_reducible first|refine uk ?_|refine wk ?_ ?_<;>intro _|(refine dr P36 mixed ?_ ?_ ?_;kernel_rfl;kernel_rfl)|refine And.intro ?_ ?_|refine zc hfr ?_)|simp -implicitDefEqProofs(disch:=first|assumption|omega)[*])
   all_goals exact⟨hlt,(),hg,fz,by simp,rfl⟩
 ·have:k=fr.length:=by omega
  subst this
  rw[if_neg (by rw[KA (f:=frmK p) hI];simp)]
  clear hI h3
  by_cases e9:st=9
  ·rw[if_pos e9]
   by_cases b1:fr.length=0
   ·have b1':(fr.length:Int)=0:=by omega
    repeat' (first|(with_reducible first|refine uk ?_|refine wk ?_ ?_<;>intro _|(refine dr P36 mixed ?_ ?_ ?_;kernel_rfl;kernel_rfl)|refine And.intro ?_ ?_)|simp -implicitDefEqProofs(disch:=first|assumption|omega)[*])
    all_goals exact zn.eqat (by simp[*]) (by simp)
   ·have b1':¬ (fr.length:Int)=0:=by omega
    repeat' (first|(with_reducible first|refine uk ?_|refine wk ?_ ?_<;>intro _|(refine dr P36 mixed ?_ ?_ ?_;kernel_rfl;kernel_rfl)|refine And.intro ?_ ?_)|simp -implicitDefEqProofs(disch:=first|assumption|omega)[*])
    all_goals exact zn.eqat (by simp[*]) (by simp)
  ·rw[if_neg e9]
   by_cases b1:0<fr.length
   ·have b1':(0:Int)<fr.length:=by omega
    repeat' (first|(with_reducible first|refine uk ?_|refine wk ?_ ?_<;>intro _|(refine dr P36 mixed ?_ ?_ ?_;kernel_rfl;kernel_rfl)|refine And.intro ?_ ?_)|simp -implicitDefEqProofs(disch:=first|assumption|omega)[*])
    all_goals exact zn.eqat (by simp[*]) (by simp)
   ·have b1':¬ (0:Int)<fr.length:=by omega
    repeat' (first|(with_reducible first|refine uk ?_|refine wk ?_ ?_<;>intro _|(refine dr P36 mixed ?_ ?_ ?_;kernel_rfl;kernel_rfl)|refine And.intro ?_ ?_)|simp -implicitDefEqProofs(disch:=first|assumption|omega)[*])
    all_goals exact zn.eqat (by simp[*]) (by simp)
@[simp] def P39:Nat→Plan
 | 9=>(.qs [0,1,2,3,4,5,6,7,8,9,10,11,12,13,14,15,16,17,18,19,20,21,22,23,24,25,26,27,28,29,30,31,32,33,34] .nil)
 | _=>.nil
set_option maxHeartbeats 8000000 in
theorem zjh {p:Prog}{c:Cor}(hp:p.chans.length≤1000000)(ht:c.threads.length≤1000000)(hb:BigR c.bufs)(hs:BigR c.sendq)(hr:BigR c.recvq):zM Tryz.prog 39 [.agg [row p.funcs,.int .i64 p.mutexes,row p.conds,row p.semas,row p.chans,row p.choices,.int .i64 p.threads],.agg [.int .i64 c.now,row c.threads,row c.owners,row c.counts,row c.bufs,row c.lockq,row c.waitq,row c.downq,row c.sendq,row c.recvq]] (.bool (Qm p c)):=by
 refine .of fun s v=>?_
 have hrw:=zcL hr (n:=(p.chans.length:Int)) (t:=(c.threads.length:Int)) (by omega)
 have hb1:=hb.1
 have hs1:=hs.1
 unfold Qm
 generalize rowsK c.recvq (p.chans.length:Int) (c.threads.length:Int)=rq at *
 by_cases e1:¬ c.bufs.length=p.chans.length
 ·rw[if_neg (by rintro⟨a,_⟩;exact e1 a)]
  have e1':¬ (c.bufs.length:Int)=(p.chans.length:Int):=by omega
  refine ac0 Tryz.func39 Tryz.ntmps39 ?_
  have hrs:Tryz.f39.results = #[.tmp 4]:=rfl
  repeat' (first|(with_reducible first|refine uk ?_|refine wk ?_ ?_<;>intro _|(refine dr P39 mixed ?_ ?_ ?_;kernel_rfl;kernel_rfl)|refine And.intro ?_ ?_|refine zc hrw ?_)|simp -implicitDefEqProofs(disch:=first|assumption|omega)[*])
  all_goals exact zn.eqat rfl (by simp)
 have e1:c.bufs.length=p.chans.length:=by omega
 by_cases e2:¬ c.sendq.length=p.chans.length
 ·rw[if_neg (by rintro⟨_,a,_⟩;exact e2 a)]
  have e1':(c.bufs.length:Int)=(p.chans.length:Int):=by omega
  have e2':¬ (c.sendq.length:Int)=(p.chans.length:Int):=by omega
  clear e1
  refine ac0 Tryz.func39 Tryz.ntmps39 ?_
  have hrs:Tryz.f39.results = #[.tmp 4]:=rfl
  repeat' (first|(with_reducible first|refine uk ?_|refine wk ?_ ?_<;>intro _|(refine dr P39 mixed ?_ ?_ ?_;kernel_rfl;kernel_rfl)|refine And.intro ?_ ?_|refine zc hrw ?_)|simp -implicitDefEqProofs(disch:=first|assumption|omega)[*])
  all_goals exact zn.eqat rfl (by simp)
 have e2:c.sendq.length=p.chans.length:=by omega
 cases rq
 ·rw[if_neg (by simp)]
  have e1':(c.bufs.length:Int)=(p.chans.length:Int):=by omega
  have e2':(c.sendq.length:Int)=(p.chans.length:Int):=by omega
  clear e1 e2
  refine ac0 Tryz.func39 Tryz.ntmps39 ?_
  have hrs:Tryz.f39.results = #[.tmp 4]:=rfl
  repeat' (first|(with_reducible first|refine uk ?_|refine wk ?_ ?_<;>intro _|(refine dr P39 mixed ?_ ?_ ?_;kernel_rfl;kernel_rfl)|refine And.intro ?_ ?_|refine zc hrw ?_)|simp -implicitDefEqProofs(disch:=first|assumption|omega)[*])
  all_goals exact zn.eqat rfl (by simp)
 rw[if_pos ⟨e1,e2,rfl⟩]
 obtain⟨n,hn⟩:∃ n,p.chans.length=n:=⟨_,rfl⟩
 rw[hn] at e1 e2 hrw hp ⊢
 refine ac0 Tryz.func39 Tryz.ntmps39 ?_
 have hrs:Tryz.f39.results = #[.tmp 4]:=rfl
 repeat' (first|(with_reducible first|refine uk ?_|refine wk ?_ ?_<;>intro _|(refine dr P39 mixed ?_ ?_ ?_;kernel_rfl;kernel_rfl)|refine And.intro ?_ ?_|refine zc hrw ?_)|simp -implicitDefEqProofs(disch:=first|assumption|omega)[*])
 clear hrw
 refine zC (β:=Unit) false n (fun k _=>∀ j,j<k→chK p c j=true) (fun k _=>[(7,.int .i64 k),(38,.any),(39,.any),(40,.any),(43,.any),(44,.any),(45,.any),(46,.any),(47,.any),(48,.any),(8,.any),(49,.any),(50,.any),(51,.any),(52,.any),(53,.any),(54,.any),(55,.any),(56,.any),(57,.any),(58,.any),(59,.any),(60,.any),(61,.any),(62,.any),(63,.any),(64,.any),(65,.any),(66,.any),(67,.any),(68,.any),(69,.any),(70,.any),(71,.any),(72,.any),(73,.any),(74,.any),(75,.any),(76,.any),(77,.any),(78,.any),(79,.any),(80,.any),(81,.any),(82,.any),(83,.any),(4,.any),(9,.any),(84,.any),(85,.any),(86,.any),(87,.any),(88,.any),(89,.any),(90,.any),(91,.any),(94,.any),(95,.any),(96,.any),(97,.any),(98,.any),(99,.any),(100,.any),(101,.any),(10,.any),(102,.any),(103,.any),(104,.any),(105,.any),(106,.any),(107,.any),(108,.any),(109,.any),(110,.any),(11,.any),(111,.any),(112,.any),(113,.any),(114,.any),(115,.any),(116,.any),(117,.any),(118,.any),(119,.any),(120,.any),(121,.any),(122,.any),(123,.any),(124,.any),(125,.any),(92,.any),(93,.any),(41,.any),(42,.any)]) (fun _ _=>s++[.cells [row p.funcs,.int .i64 p.mutexes,row p.conds,row p.semas,row p.chans,row p.choices,.int .i64 p.threads],.cells [.int .i64 c.now,row c.threads,row c.owners,row c.counts,row c.bufs,row c.lockq,row c.waitq,row c.downq,row c.sendq,row c.recvq]]) (fun _ _=>v) ?_ ?_
 ·exact⟨(),by simp,fz0,by simp,rfl⟩
 rintro k _ hk2 hI
 by_cases hlt:k<n
 ·have x1:=zB (l:=c.bufs) (i:=(k:Int)) (by omega) (by omega)
  have x2:=zB (l:=c.sendq) (i:=(k:Int)) (by omega) (by omega)
  have x3:=zB (l:=p.chans) (i:=(k:Int)) (by omega) (by omega)
  rw[Int.toNat_natCast] at x1 x2 x3
  have hlb:=hb.2 _ (zm (l:=c.bufs) (k:=k) (by omega))
  have hls:=hs.2 _ (zm (l:=c.sendq) (k:=k) (by omega))
  have hbt:=Ke (l:=nth c.bufs k) (a:= -1073741824) (b:=1073741824) (by omega)
  have hbad:chK p c k=false→(List.range n).all (chK p c)=false:=fun h=>zii hlt h
  have hgo:chK p c k=true→∀ j,j<k+1→chK p c j=true:=fun hy j hj=>by
   by_cases e:j=k
   ·subst e;exact hy
   ·exact hI j (by omega)
  clear hI
  have hlt':(k:Int)<n:=by omega
  have hlt1:k<c.bufs.length:=by omega
  have hlt2:k<c.sendq.length:=by omega
  have hlt3:k<p.chans.length:=by omega
  unfold chK at hbad hgo
  have hch:chK0 p c k=(!betC (nth c.bufs k) (-1073741824) 1073741824 || decide (nth p.chans k<(nth c.bufs k).length) || decide (64<(nth c.sendq k).length) || !decide ((nth c.sendq k).length%2=0)):=rfl
  generalize betC (nth c.bufs k) (-1073741824) 1073741824=b at *
  clear e1 e2 hn
  cases b
  ·have h0:=hbad (by rw[hch];rfl)
   have h00:(List.range n).all (chK p c)=false:=h0
   rw[h00]
   clear hbad hgo hch h0 h00
   repeat' (first|(with_reducible first|refine uk ?_|refine wk ?_ ?_<;>intro _|(refine dr P39 mixed ?_ ?_ ?_;kernel_rfl;kernel_rfl)|refine And.intro ?_ ?_|refine zc hbt ?_)|simp -implicitDefEqProofs(disch:=first|assumption|omega)[*])
   all_goals exact zn.eqat rfl (by simp)
  by_cases g1:nth p.chans k<(nth c.bufs k).length
  ·have h00:(List.range n).all (chK p c)=false:=hbad (by rw[hch];simp[g1])
   rw[h00]
   clear hbad hgo hch h00
   repeat' (first|(with_reducible first|refine uk ?_|refine wk ?_ ?_<;>intro _|(refine dr P39 mixed ?_ ?_ ?_;kernel_rfl;kernel_rfl)|refine And.intro ?_ ?_|refine zc hbt ?_)|simp -implicitDefEqProofs(disch:=first|assumption|omega)[*])
   all_goals exact zn.eqat rfl (by simp)
  by_cases g2:64<(nth c.sendq k).length
  ·have h00:(List.range n).all (chK p c)=false:=hbad (by rw[hch];simp[g2])
   have g2':(64:Int)<(nth c.sendq k).length:=by omega
   rw[h00]
   clear hbad hgo hch h00
   repeat' (first|(with_reducible first|refine uk ?_|refine wk ?_ ?_<;>intro _|(refine dr P39 mixed ?_ ?_ ?_;kernel_rfl;kernel_rfl)|refine And.intro ?_ ?_|refine zc hbt ?_)|simp -implicitDefEqProofs(disch:=first|assumption|omega)[*])
   all_goals exact zn.eqat rfl (by simp)
  have g2':¬ (64:Int)<(nth c.sendq k).length:=by omega
  by_cases g3:¬ (nth c.sendq k).length%2=0
  ·have h00:(List.range n).all (chK p c)=false:=hbad (by rw[hch];simp[g3])
   have g3':¬ ((nth c.sendq k).length:Int).tmod 2=0:=by rw[Int.tmod_eq_emod_of_nonneg (by omega)];omega
   rw[h00]
   clear hbad hgo hch h00
   repeat' (first|(with_reducible first|refine uk ?_|refine wk ?_ ?_<;>intro _|(refine dr P39 mixed ?_ ?_ ?_;kernel_rfl;kernel_rfl)|refine And.intro ?_ ?_|refine zc hbt ?_)|simp -implicitDefEqProofs(disch:=first|assumption|omega)[*])
   all_goals exact zn.eqat rfl (by simp)
  have g4:(nth c.sendq k).length%2=0:=by omega
  have g3':((nth c.sendq k).length:Int).tmod 2=0:=by rw[Int.tmod_eq_emod_of_nonneg (by omega)];omega
  have hc0:¬ chK0 p c k=true:=by rw[hch];simp[g1,g2,g4]
  rw[if_neg hc0] at hbad hgo
  clear hch hc0 g3
  repeat' (first|(with_reducible first|refine uk ?_|refine wk ?_ ?_<;>intro _|(refine dr P39 mixed ?_ ?_ ?_;kernel_rfl;kernel_rfl)|refine And.intro ?_ ?_|refine zc hbt ?_)|simp -implicitDefEqProofs(disch:=first|assumption|omega)[*])
  clear hbt
  refine yW (β:=Unit) false ((nth c.sendq k).length/2) (fun m _=>∀ j,j<m→KP c.threads.length (nth c.sendq k) j=true) (fun m _=>[(9,.int .i64 (2*m:Nat)),(84,.any),(85,.any),(86,.any),(87,.any),(88,.any),(89,.any),(90,.any),(91,.any),(94,.any),(95,.any),(96,.any),(97,.any),(98,.any),(99,.any),(100,.any),(101,.any),(10,.any),(102,.any),(103,.any),(104,.any),(105,.any),(106,.any),(107,.any),(108,.any),(109,.any),(110,.any),(11,.any),(111,.any),(112,.any),(113,.any),(114,.any),(115,.any),(116,.any),(117,.any),(118,.any),(119,.any),(120,.any),(121,.any),(122,.any),(123,.any),(124,.any),(125,.any),(4,.any),(92,.any),(93,.any)]) (fun _ _=>s++[.cells [row p.funcs,.int .i64 p.mutexes,row p.conds,row p.semas,row p.chans,row p.choices,.int .i64 p.threads],.cells [.int .i64 c.now,row c.threads,row c.owners,row c.counts,row c.bufs,row c.lockq,row c.waitq,row c.downq,row c.sendq,row c.recvq]]) (fun _ _=>v) ?_ ?_
  ·exact⟨(),by simp,fz0,by simp,rfl⟩
  rintro m _ hm hJ
  by_cases hmt:m<(nth c.sendq k).length/2
  ·have y1:=zB (l:=nth c.sendq k) (i:=((2*m:Nat):Int)) (by omega) (by omega)
   have y2:=zB (l:=nth c.sendq k) (i:=((2*m:Nat):Int)+1) (by omega) (by omega)
   rw[Int.toNat_natCast] at y1
   rw[show (((2*m:Nat):Int)+1).toNat=2*m+1 by omega] at y2
   have hkp:=ZQ (nth (nth c.sendq k) (2*m+1))
   have hbd:KP c.threads.length (nth c.sendq k) m=false→(List.range n).all (chK p c)=false:=fun h=>hbad (zii hmt h)
   have hgd:KP c.threads.length (nth c.sendq k) m=true→∀ j,j<m+1→KP c.threads.length (nth c.sendq k) j=true:=fun hy j hj=>by
    by_cases e:j=m
    ·subst e;exact hy
    ·exact hJ j (by omega)
   have hsd:KP c.threads.length (nth c.sendq k) m = !(decide (nth (nth c.sendq k) (2*m)<0) || decide ((c.threads.length:Int)≤nth (nth c.sendq k) (2*m)) || !decide (nth (nth c.sendq k) (2*m+1)=keep (nth (nth c.sendq k) (2*m+1)))):=rfl
   have h2m:((2*m:Nat):Int)<(nth c.sendq k).length:=by omega
   have h2m1:((2*m:Nat):Int)+1<(nth c.sendq k).length:=by omega
   have hs2:((2*m:Nat):Int)+2=((2*(m+1):Nat):Int):=by omega
   clear hJ hbad hgo g4 g3' hm hlb
   by_cases q1:nth (nth c.sendq k) (2*m)<0
   ·rw[hbd (by rw[hsd];simp[q1])]
    clear hbd hgd hsd
    generalize 2*(m+1)=m2 at *
    generalize 2*m=m1 at *
    repeat' (first|(with_reducible first|refine uk ?_|refine wk ?_ ?_<;>intro _|(refine dr P39 mixed ?_ ?_ ?_;kernel_rfl;kernel_rfl)|refine And.intro ?_ ?_|refine zc hkp ?_)|simp -implicitDefEqProofs(disch:=first|assumption|omega)[*])
    all_goals exact zn.eqat rfl (by simp)
   by_cases q2:(c.threads.length:Int)≤nth (nth c.sendq k) (2*m)
   ·rw[hbd (by rw[hsd];simp[q2])]
    clear hbd hgd hsd
    generalize 2*(m+1)=m2 at *
    generalize 2*m=m1 at *
    repeat' (first|(with_reducible first|refine uk ?_|refine wk ?_ ?_<;>intro _|(refine dr P39 mixed ?_ ?_ ?_;kernel_rfl;kernel_rfl)|refine And.intro ?_ ?_|refine zc hkp ?_)|simp -implicitDefEqProofs(disch:=first|assumption|omega)[*])
    all_goals exact zn.eqat rfl (by simp)
   by_cases q3:nth (nth c.sendq k) (2*m+1)=keep (nth (nth c.sendq k) (2*m+1))
   ·have hg:=hgd (by rw[hsd];simp[q1,q2,← q3])
    rw[← q3] at hkp
    clear hbd hgd hsd q3
    generalize hm2:2*(m+1)=m2 at *
    generalize 2*m=m1 at *
    have hsb:(m2:Int)<9223372036854775807:=by omega
    repeat' (first|(with_reducible first|refine uk ?_|refine wk ?_ ?_<;>intro _|(refine dr P39 mixed ?_ ?_ ?_;kernel_rfl;kernel_rfl)|refine And.intro ?_ ?_|refine zc hkp ?_)|simp -implicitDefEqProofs(disch:=first|assumption|omega)[*])
    all_goals exact⟨hmt,(),hg,by (refine Fits.of ?_ ?_;rotate_left;(repeat (first|with_reducible exact Off.refl _ _|refine Off.upd rfl ?_|refine Off.updO rfl ?_|refine Off.upds rfl ?_));first|(simp[zh,zu];done)|(simp[zh,zu, *,hm2,hs2];done)|(simp[zh,zu, *,hm2,hs2];omega)|simp[zh,zu]),by simp,rfl⟩
   ·rw[hbd (by rw[hsd];simp[q3])]
    clear hbd hgd hsd
    generalize keep (nth (nth c.sendq k) (2*m+1))=ko at *
    generalize 2*(m+1)=m2 at *
    generalize 2*m=m1 at *
    repeat' (first|(with_reducible first|refine uk ?_|refine wk ?_ ?_<;>intro _|(refine dr P39 mixed ?_ ?_ ?_;kernel_rfl;kernel_rfl)|refine And.intro ?_ ?_|refine zc hkp ?_)|simp -implicitDefEqProofs(disch:=first|assumption|omega)[*])
    all_goals exact zn.eqat rfl (by simp)
  ·have hme:m=(nth c.sendq k).length/2:=by omega
   subst hme
   have hg:=hgo (zfK hJ)
   have hnl:¬ ((2*((nth c.sendq k).length/2):Nat):Int)<(nth c.sendq k).length:=by omega
   clear hJ hbad hgo g4 g3' hm hmt hlb
   generalize 2*((nth c.sendq k).length/2)=m1 at *
   repeat' (first|(with_reducible first|refine uk ?_|refine wk ?_ ?_<;>intro _|(refine dr P39 mixed ?_ ?_ ?_;kernel_rfl;kernel_rfl)|refine And.intro ?_ ?_)|simp -implicitDefEqProofs(disch:=first|assumption|omega)[*])
   all_goals exact⟨hlt,(),hg,fz,by simp,rfl⟩
 ·have hke:k=n:=by omega
  subst hke
  rw[zfK hI]
  clear hI
  repeat' (first|(with_reducible first|refine uk ?_|refine wk ?_ ?_<;>intro _|(refine dr P39 mixed ?_ ?_ ?_;kernel_rfl;kernel_rfl)|refine And.intro ?_ ?_)|simp -implicitDefEqProofs(disch:=first|assumption|omega)[*])
  all_goals exact zn.eqat rfl (by simp)
@[simp] def P12:Nat→Plan
 | 9=>(.qs [0,1,2,3,4,5] (.w 6 [] (.qs [7] .nil)))
 | _=>.nil
structure BigC (c:Cor):Prop where
 threads:c.threads.length≤1000000∧∀ t∈c.threads,t.frames.length≤1000000∧t.stack.length≤1000000∧∀ f∈t.frames,f.locals.length≤1000000
 owners:c.owners.length≤1000000
 counts:c.counts.length≤1000000
 bufs:BigR c.bufs
 lockq:BigR c.lockq
 waitq:BigR c.waitq
 downq:BigR c.downq
 sendq:BigR c.sendq
 recvq:BigR c.recvq
set_option maxHeartbeats 8000000 in
theorem ziY {p:Prog}{c:Cor}{ver e:Int}(hp:MayP p)(hm:zM Tryz.prog 35 [.agg [row p.funcs,.int .i64 p.mutexes,row p.conds,row p.semas,row p.chans,row p.choices,.int .i64 p.threads]] (.bool true))(h:BigC c):zM Tryz.prog 12 [.agg [.int .i64 ver,.int .i64 e,row p.funcs,.int .i64 p.mutexes,row p.conds,row p.semas,row p.chans,row p.choices,.int .i64 p.threads,.int .i64 c.now,row c.threads,row c.owners,row c.counts,row c.bufs,row c.lockq,row c.waitq,row c.downq,row c.sendq,row c.recvq]] (.bool (wR e p c)):=by
 refine .of fun s v=>?_
 have ht:=h.threads.1
 unfold wR
 by_cases h0:vh e p c=true
 ·rw[if_pos h0]
  unfold vh at h0
  have hf1:decide (c.threads.length<1)=decide ((c.threads.length:Int)<1):=by rw[decide_eq_decide];omega
  rw[hf1] at h0
  clear hf1
  refine ac0 Tryz.func12 Tryz.ntmps12 ?_
  have hrs:Tryz.f12.results = #[.tmp 2]:=rfl
  repeat' (first|(with_reducible first|refine uk ?_|refine wk ?_ ?_<;>intro _|(refine dr P12 mixed ?_ ?_ ?_;kernel_rfl;kernel_rfl)|refine And.intro ?_ ?_|refine zc hm ?_)|simp -implicitDefEqProofs(disch:=first|assumption|omega)[*])
  all_goals first|exact zn.eqat rfl (by simp)|(exfalso;revert h0;simp[*];done)|(exfalso;revert h0;simp[*]<;>omega)
 rw[if_neg h0]
 simp only[vh,Bool.or_eq_true,decide_eq_true_eq,not_or] at h0
 obtain⟨⟨⟨⟨⟨a1,a2⟩,a3⟩,a4⟩,a5⟩,a6⟩:=h0
 have a5':¬ (c.threads.length:Int)<1:=by omega
 have hpc:=hp.chans.1
 have q1:=Ke (l:=c.owners) (a:= -1) (b:=(c.threads.length:Int)-1) (by have:=h.owners;omega)
 have q2:=Ke (l:=c.counts) (a:=0) (b:=1073741824) (by have:=h.counts;omega)
 have q3:=zcL h.lockq (n:=p.mutexes) (t:=(c.threads.length:Int)) (by omega)
 have q4:=zcL h.waitq (n:=(p.conds.length:Int)) (t:=(c.threads.length:Int)) (by omega)
 have q5:=zcL h.downq (n:=(p.semas.length:Int)) (t:=(c.threads.length:Int)) (by omega)
 have q6:=zjh (p:=p) (by omega) ht h.bufs h.sendq h.recvq
 generalize Qm p c=b6 at *
 generalize betC c.owners (-1) ((c.threads.length:Int)-1)=b1 at *
 generalize betC c.counts 0 1073741824=b2 at *
 generalize rowsK c.lockq p.mutexes (c.threads.length:Int)=b3 at *
 generalize rowsK c.waitq (p.conds.length:Int) (c.threads.length:Int)=b4 at *
 generalize rowsK c.downq (p.semas.length:Int) (c.threads.length:Int)=b5 at *
 have hfe:decide (c.counts.length=p.semas.length)=decide ((c.counts.length:Int)=(p.semas.length:Int)):=by rw[decide_eq_decide];omega
 rw[hfe]
 clear hfe hpc a5
 refine ac0 Tryz.func12 Tryz.ntmps12 ?_
 have hrs:Tryz.f12.results = #[.tmp 2]:=rfl
 repeat' (first|(with_reducible first|refine uk ?_|refine wk ?_ ?_<;>intro _|(refine dr P12 mixed ?_ ?_ ?_;kernel_rfl;kernel_rfl)|refine And.intro ?_ ?_|refine zc hm ?_)|simp -implicitDefEqProofs(disch:=first|assumption|omega)[*])
 clear hm a1 a2 a3 a4 a5' a6
 refine zC (β:=Unit) false c.threads.length (fun k _=>∀ j,j<k→thrK p (nth c.threads j)=true) (fun k _=>[(6,.int .i64 k),(56,.any),(57,.any),(58,.any),(59,.any),(60,.any),(63,.any),(64,.any),(65,.any),(66,.any),(67,.any),(68,.any),(69,.any),(7,.any),(70,.any),(71,.any),(2,.any),(61,.any),(62,.any)]) (fun _ _=>s++[.cells [.int .i64 ver,.int .i64 e,row p.funcs,.int .i64 p.mutexes,row p.conds,row p.semas,row p.chans,row p.choices,.int .i64 p.threads,.int .i64 c.now,row c.threads,row c.owners,row c.counts,row c.bufs,row c.lockq,row c.waitq,row c.downq,row c.sendq,row c.recvq],.cells [row p.funcs,.int .i64 p.mutexes,row p.conds,row p.semas,row p.chans,row p.choices,.int .i64 p.threads],.cells [.int .i64 c.now,row c.threads,row c.owners,row c.counts,row c.bufs,row c.lockq,row c.waitq,row c.downq,row c.sendq,row c.recvq]]) (fun _ _=>v) ?_ ?_
 ·exact⟨(),by simp,fz0,by simp,rfl⟩
 rintro k _ hk2 hI
 by_cases hlt:k<c.threads.length
 ·have hx:=zB (l:=c.threads) (i:=(k:Int)) (by omega) (by omega)
  rw[Int.toNat_natCast] at hx
  have hb:=h.threads.2 _ (zm hlt)
  have hfr:=zle (p:=p) (t:=nth c.threads k) hb.1 hb.2.1 hb.2.2
  simp only[Thr.lv] at hfr
  have hbad:thrK p (nth c.threads k)=false→c.threads.all (thrK p)=false:=fun h=>XF hlt h
  have hgo:thrK p (nth c.threads k)=true→∀ j,j<k+1→thrK p (nth c.threads j)=true:=fun hy j hj=>by
   by_cases e:j=k
   ·subst e;exact hy
   ·exact hI j (by omega)
  clear hI q1 q2 q3 q4 q5 q6 hb
  have hlt':(k:Int)<c.threads.length:=by omega
  generalize thrK p (nth c.threads k)=b at *
  cases b
  ·rw[if_pos (hbad rfl)]
   clear hbad hgo
   repeat' (first|(with_reducible first|refine uk ?_|refine wk ?_ ?_<;>intro _|(refine dr P12 mixed ?_ ?_ ?_;kernel_rfl;kernel_rfl)|refine And.intro ?_ ?_|refine zc hfr ?_)|simp -implicitDefEqProofs(disch:=first|assumption|omega)[*])
   all_goals exact zn.eqat rfl (by simp)
  ·have hg:=hgo rfl
   clear hbad hgo
   repeat' (first|(with_reducible first|refine uk ?_|refine wk ?_ ?_<;>intro _|(refine dr P12 mixed ?_ ?_ ?_;kernel_rfl;kernel_rfl)|refine And.intro ?_ ?_|refine zc hfr ?_)|simp -implicitDefEqProofs(disch:=first|assumption|omega)[*])
   all_goals exact⟨hlt,(),hg,fz,by simp,rfl⟩
 ·have:k=c.threads.length:=by omega
  subst this
  rw[if_neg (by rw[KA (f:=thrK p) hI];simp)]
  clear hI
  repeat' (first|(with_reducible first|refine uk ?_|refine wk ?_ ?_<;>intro _|(refine dr P12 mixed ?_ ?_ ?_;kernel_rfl;kernel_rfl)|refine And.intro ?_ ?_|refine zc q1 ?_|refine zc q2 ?_|refine zc q3 ?_|refine zc q4 ?_|refine zc q5 ?_|refine zc q6 ?_)|simp -implicitDefEqProofs(disch:=first|assumption|omega)[*])
  all_goals exact zn.eqat (by simp[*]) (by simp)
theorem zmg {l:List Int}(hb:l.length≤10000000):zis Tryz.prog 202 [row l] l:=fun s v=>by
 refine ac0 Tryz.func202 Tryz.ntmps202 ?_
 have hrs:Tryz.f202.results = #[.tmp 2]:=rfl
 obtain⟨x1,v2,g1,_,ga⟩:=(GroE.nil v (α:=Int)).appr (P:=Tryz.prog) (t:=23) (t2:=23) (by_:=8) (by kernel_rfl) (by omega) l (by simp;omega)
 simp only[List.nil_append] at g1
 repeat' (first|(with_reducible first|refine uk ?_|refine wk ?_ ?_<;>intro _)|simp -implicitDefEqProofs(disch:=first|assumption|omega)[*])
theorem ziA {l:List Int}(hb:l.length≤10000000){s:List AObj}{v:List Nat} : zp Tryz.prog 202 [row l] s v (zeP 1 l.length (fun cs v'=>cs=zd l∧v=v') s):=by
 refine ac1 Tryz.func202 Tryz.ntmps202 ?_
 have hrs:Tryz.f202.results = #[.tmp 2]:=rfl
 obtain⟨x1,J1,ha1,hJ1⟩:=Jv (P:=Tryz.prog) (t:=23) (t2:=23) (sz:=1) (by_:=8) (by kernel_rfl) rfl (by omega) (l:=l) (by unfold maxLen;omega) (by omega) s
 have hend:zeP 1 l.length (fun cs v'=>cs=zd l∧v=v') s x1 (s++J1) v:=by
  refine⟨J1,0,zd l,rfl,?_,by omega,?_,rfl,rfl⟩
  ·rcases hJ1 with ⟨e1,rfl,rfl⟩ | ⟨e1,rfl,rfl⟩
   ·rw[e1];exact .inl ⟨rfl,rfl,rfl⟩
   ·have hl1:l.length≠0:=fun e=>e1 (List.length_eq_zero_iff.1 e)
    exact .inr ⟨hl1,xe (by simp) e1,by simp,by simp,by rw[zY];simp⟩
  ·rcases hJ1 with ⟨e1,rfl,rfl⟩ | ⟨e1,rfl,rfl⟩
   ·rw[e1];simp
   ·simp
 clear hJ1
 repeat' (first|(with_reducible first|refine uk ?_|refine wk ?_ ?_<;>intro _)|simp -implicitDefEqProofs(disch:=first|assumption|omega)[*])
theorem wp {L:List (List Int)}(hb:L.length≤10000000)(hb2:∀ l∈L,l.length≤10000000){s:List AObj}{v:List Nat} : zp Tryz.prog 108 [row L] s v (zeP 1 L.length (fun cs v'=>ListsG v v' L cs) s):=by
 refine ac1 Tryz.func108 Tryz.ntmps108 ?_
 have hrs:Tryz.f108.results = #[.tmp 2]:=rfl
 repeat' (first|(with_reducible first|refine uk ?_|refine wk ?_ ?_<;>intro _)|simp -implicitDefEqProofs(disch:=first|assumption|omega)[*])
 refine zC (β:=List AObj × Nat × List LV × LV × List Nat) true L.length (fun k p=>RowR (s++p.1) 1 k p.2.2.1 p.2.2.2.1 (s.length+p.2.1)∧p.2.1≤p.1.length∧(k≠0→p.2.1<p.1.length)∧ListsG v p.2.2.2.2 (L.take k) p.2.2.1) (fun k p=>[(3,p.2.2.2.1),(4,.int .i64 k),(5,.any),(6,.any),(7,.any),(8,.any),(11,.any),(12,.any),(13,.any),(14,.any),(15,.any),(16,.any),(17,.any),(18,.any),(9,.any),(10,.any)]) (fun _ p=>s++p.1) (fun _ p=>p.2.2.2.2) ?_ ?_
 ·exact⟨([],0,[],.nils,v),⟨.inl ⟨rfl,rfl,rfl⟩,by simp,by simp,ListsG.nil v⟩,fz0,by simp,rfl⟩
 rintro k ⟨J,d,xs,x,v1⟩ hk ⟨hR,hd1,hd2,hG⟩
 simp only at hR hd1 hd2 hG
 by_cases hlt:k<L.length
 ·have hx:=zB (l:=L) (i:=(k:Int)) (by omega) (by omega)
  have hg:=zmg (hb2 _ (zm hlt))
  have hxc:=hR.cells
  repeat' (first|(with_reducible first|refine uk ?_|refine wk ?_ ?_<;>intro _|refine zly hg (fun y v2 hyc hy=>?_))|simp -implicitDefEqProofs(disch:=first|assumption|omega)[*])
  obtain⟨J2,ha,hR2,hJ2⟩:=zdA (P:=Tryz.prog) (t:=24) (t2:=24) (by_:=24) (by kernel_rfl) (by omega) hR y (by omega)
  repeat' (first|(with_reducible first|refine uk ?_|refine wk ?_ ?_<;>intro _)|simp -implicitDefEqProofs(disch:=first|assumption|omega)[*])
  exact⟨hlt,(J2,J.length,xs++[y],.ref 1 (s.length+J.length) 0 (k+1) false,v2),⟨hR2,Nat.le_of_lt hJ2,fun _=>hJ2,by show ListsG v v2 (L.take (k+1)) _;rw[za hlt];exact hG.snoc hy⟩,fz,by simp,rfl⟩
 ·have:k=L.length:=by omega
  subst this
  rw[List.take_of_length_le (Nat.le_refl _)] at hG
  have hend:zeP 1 L.length (fun cs v'=>ListsG v v' L cs) s x (s++J) v1:=⟨J,d,xs,rfl,hR,hd1,hd2,hG⟩
  repeat' (first|(with_reducible first|refine uk ?_|refine wk ?_ ?_<;>intro _)|simp -implicitDefEqProofs(disch:=first|assumption|omega)[*])
theorem zmk {c:Cor}(h1:c.owners.length≤10000000)(h2:c.counts.length≤10000000)(h3:c.lockq.length≤10000000∧∀ l∈c.lockq,l.length≤10000000)(h4:c.waitq.length≤10000000∧∀ l∈c.waitq,l.length≤10000000)(h5:c.downq.length≤10000000∧∀ l∈c.downq,l.length≤10000000)
  {s:List AObj} {v:List Nat} : zp Tryz.prog 297 [.agg [.int .i64 c.now,row c.threads,row c.owners,row c.counts,row c.bufs,row c.lockq,row c.waitq,row c.downq,row c.sendq,row c.recvq]] s v (OwnR c s v):=by
 have c1:=fun s v=>ziA h1 (s:=s) (v:=v)
 have c2:=fun s v=>ziA h2 (s:=s) (v:=v)
 have c3:=fun s v=>wp h3.1 h3.2 (s:=s) (v:=v)
 have c4:=fun s v=>wp h4.1 h4.2 (s:=s) (v:=v)
 have c5:=fun s v=>wp h5.1 h5.2 (s:=s) (v:=v)
 refine ac1 Tryz.func297 Tryz.ntmps297 ?_
 have hrs:Tryz.f297.results = #[.cell 2 29]:=rfl
 repeat' (first|(with_reducible first|refine uk ?_|refine wk ?_ ?_<;>intro _|refine xg (c1 _ _) (fun x1 J1 d1 s1 v1 q1 r1 e1 f1 g1=>?_))|simp -implicitDefEqProofs(disch:=first|assumption|omega)[*])
 obtain⟨rfl,rfl⟩:=g1
 repeat' (first|(with_reducible first|refine uk ?_|refine wk ?_ ?_<;>intro _|refine xg (c2 _ _) (fun x2 J2 d2 s2 v2 q2 r2 e2 f2 g2=>?_))|simp -implicitDefEqProofs(disch:=first|assumption|omega)[*])
 obtain⟨rfl,rfl⟩:=g2
 repeat' (first|(with_reducible first|refine uk ?_|refine wk ?_ ?_<;>intro _|refine xg (c3 _ _) (fun x3 J3 d3 s3 v3 q3 r3 e3 f3 g3=>?_))|simp -implicitDefEqProofs(disch:=first|assumption|omega)[*])
 repeat' (first|(with_reducible first|refine uk ?_|refine wk ?_ ?_<;>intro _|refine xg (c4 _ _) (fun x4 J4 d4 s4 v4 q4 r4 e4 f4 g4=>?_))|simp -implicitDefEqProofs(disch:=first|assumption|omega)[*])
 repeat' (first|(with_reducible first|refine uk ?_|refine wk ?_ ?_<;>intro _|refine xg (c5 _ _) (fun x5 J5 d5 s5 v5 q5 r5 e5 f5 g5=>?_))|simp -implicitDefEqProofs(disch:=first|assumption|omega)[*])
 clear c1 c2 c3 c4 c5
 repeat' (first|(with_reducible first|refine uk ?_|refine wk ?_ ?_<;>intro _)|simp -implicitDefEqProofs(disch:=first|assumption|omega)[*])
 refine⟨AObj.cells [.int .i64 c.now,row c.threads,x1,x2,row c.bufs,x3,x4,x5,row c.sendq,row c.recvq] :: AObj.cells [.int .i64 c.now,row c.threads,x1,x2,row c.bufs,x3,x4,x5,row c.sendq,row c.recvq] :: (J1++(J2++(J3++(J4++J5)))),x1,x2,x3,x4,x5,s3,s4,s5,2+d1,2+J1.length+d2,2+J1.length+J2.length+d3,2+J1.length+J2.length+J3.length+d4,2+J1.length+J2.length+J3.length+J4.length+d5,rfl,⟨rfl,?_,?_,?_,?_,?_,g3.mono (g4.pre.trans g5.pre),(g4.back g3.pre).mono g5.pre,g5.back (g3.pre.trans g4.pre),?_,?_,?_,?_,?_⟩⟩
 ·exact(wy (S1:=s++(AObj.cells [.int .i64 c.now,row c.threads,x1,x2,row c.bufs,x3,x4,x5,row c.sendq,row c.recvq] :: AObj.cells [.int .i64 c.now,row c.threads,x1,x2,row c.bufs,x3,x4,x5,row c.sendq,row c.recvq] :: [])) (B:=J2++(J3++(J4++(J5)))) r1 f1 (by simp)).eq (by simp) (by simp;omega)
 ·exact(wy (S1:=s++(AObj.cells [.int .i64 c.now,row c.threads,x1,x2,row c.bufs,x3,x4,x5,row c.sendq,row c.recvq] :: AObj.cells [.int .i64 c.now,row c.threads,x1,x2,row c.bufs,x3,x4,x5,row c.sendq,row c.recvq] :: (J1))) (B:=J3++(J4++(J5))) r2 f2 (by simp)).eq (by simp) (by simp;omega)
 ·exact(wy (S1:=s++(AObj.cells [.int .i64 c.now,row c.threads,x1,x2,row c.bufs,x3,x4,x5,row c.sendq,row c.recvq] :: AObj.cells [.int .i64 c.now,row c.threads,x1,x2,row c.bufs,x3,x4,x5,row c.sendq,row c.recvq] :: (J1++(J2)))) (B:=J4++(J5)) r3 f3 (by simp)).eq (by simp) (by simp;omega)
 ·exact(wy (S1:=s++(AObj.cells [.int .i64 c.now,row c.threads,x1,x2,row c.bufs,x3,x4,x5,row c.sendq,row c.recvq] :: AObj.cells [.int .i64 c.now,row c.threads,x1,x2,row c.bufs,x3,x4,x5,row c.sendq,row c.recvq] :: (J1++(J2++(J3))))) (B:=J5) r4 f4 (by simp)).eq (by simp) (by simp;omega)
 ·exact(wy (S1:=s++(AObj.cells [.int .i64 c.now,row c.threads,x1,x2,row c.bufs,x3,x4,x5,row c.sendq,row c.recvq] :: AObj.cells [.int .i64 c.now,row c.threads,x1,x2,row c.bufs,x3,x4,x5,row c.sendq,row c.recvq] :: (J1++(J2++(J3++(J4)))))) (B:=([]:List AObj)) r5 f5 (by simp)).eq (by simp) (by simp;omega)
 ·exact⟨by omega,fun h=>by have:=f1 h;omega⟩
 ·exact⟨by omega,fun h=>by have:=f2 h;omega⟩
 ·exact⟨by omega,fun h=>by have:=f3 h;omega⟩
 ·exact⟨by omega,fun h=>by have:=f4 h;omega⟩
 ·omega
end Go.Hb
end
