/-
  A layer for reasoning about the program's calls, and contracts of its functions. CONDITIONS: none; each theorem bears its own.
-/
import Derived.Test.YtieoaonaijbijaaGreatG26
import Derived.Test.YtieoaonaijbijaaGreatG12
import Derived.Test.YtieoaonaijbijaaGreatG16
import Derived.Test.YtieoaonaijbijaaGreatG09
import Derived.Test.YtieoaonaijbijaaGreatG17
set_option linter.unusedVariables false
set_option linter.unusedSimpArgs false
section
namespace Go.Hb
open Go Go.Proofs Go.RowKit
set_option maxRecDepth 100000
set_option maxHeartbeats 800000
attribute [-simp] aC aL aOper aThen aInBlock aIf aPlan aAppend aLen aIndexAddr aSlice aCells aBounds lBr aq initT aev aAppendOwn aAppendNil aAppendNew aAppendRef LV.cells LV.cellsOk getElem?_pos getElem?_neg
theorem next_fold (c:Cor):∀ (l:List Int) (a:Int × Nat),(l≠[]∨a.2≠0)→(∀ t∈l,c.now<(at' c.threads t).on∧(at' c.threads t).on≤1073741824)→(a.2≠0→c.now<a.1∧a.1≤1073741824)→c.now<(l.foldl (nextStep c) a).1∧(l.foldl (nextStep c) a).1≤1073741824
 | [],a,h,_,ha=>ha (h.resolve_left (by simp))
 | t :: l,a,_,hl,ha=>by
  rw [List.foldl_cons]
  refine next_fold c l _ (.inr (by simp [nextStep])) (fun u hu=>hl u (by simp [hu])) fun _=>?_
  have ht:=hl t (by simp)
  unfold nextStep
  simp only
  split
  ·exact ht
  ·exact ha (by omega)
theorem next_in {p:Prog} {c:Cor} (h:Inv p (-1) noD c) (hl:(nextC c).2=true):c.now<(nextC c).1∧(nextC c).1≤1073741824:=by
 unfold nextC at hl ⊢
 simp only [decide_eq_true_eq] at hl
 refine next_fold c _ _ (.inl fun e=>by rw [e] at hl;simp at hl) (fun t ht=>?_) (fun h=>absurd rfl h)
 have hm:=inC_mem ht
 exact(h.one t.toNat (by omega) (by omega)).sleep hm.2.2
theorem play_succ {p:Prog} {c:Cor} {l:List Int} {k:Nat} (h:k<l.length):playC p c (l.take (k+1))=((pickC p (playC p c (l.take k)).1 (nth l k)).1,(playC p c (l.take k)).2++(pickC p (playC p c (l.take k)).1 (nth l k)).2):=by
 unfold playC
 rw [take_succ_nth h,List.foldl_append];rfl
theorem pick_bd {p:Prog} (hp:MayP p) {c:Cor} (h:Inv p (-1) noD c) (k:Int):(pickC p c k).2.length≤1000:=by
 unfold pickC
 split
 ·split<;>simp
 ·unfold stepC
  split
  ·simp
  ·split
   ·simp
   ·exact(stepMeet_p hp h (by omega) (by omega) (by omega)).2.1
set_option maxHeartbeats 8000000 in
theorem play_p {p:Prog} (hp:MayP p) {c:Cor} (h:Inv p (-1) noD c) {l:List Int} {most:Int} (hl:l.length≤9223372036854775807) (hI:∀ x∈l,I64 x) (hm0:0≤most) (hm1:most≤200) :
  PureC Tryz.prog 32 [.agg [row p.funcs,.int .i64 p.mutexes,row p.conds,row p.semas,row p.chans,row p.choices,.int .i64 p.threads],.agg [.int .i64 c.now,row c.threads,row c.owners,row c.counts,row c.bufs,row c.lockq,row c.waitq,row c.downq,row c.sendq,row c.recvq],row l,.int .i64 most] (.tup [.agg (playC p c (l.take most.toNat)).1.lv,row (playC p c (l.take most.toNat)).2]):=by
 refine .of fun s v=>?_
 have hn2:=hp.threads.2
 have hlen:(l.take most.toNat).length≤200:=by rw [List.length_take];omega
 refine ac0 Tryz.func32 Tryz.ntmps32 ?_
 have hrs:Tryz.f32.results = #[.cell 8 29,.tmp 9]:=rfl
 repeat' (first|(with_reducible first|refine uk ?_|refine wk ?_ ?_<;>intro _|(refine dr P32 mixed ?_ ?_ ?_;kernel_rfl;kernel_rfl)|refine And.intro ?_ ?_)|simp -implicitDefEqProofs(disch:=first|assumption|omega)[*])
 refine aW_for (β:=LV × List Nat × List AObj) false (l.take most.toNat).length (fun k q=>GroE v q.2.1 (playC p c ((l.take most.toNat).take k)).2 q.1∧(playC p c ((l.take most.toNat).take k)).2.length≤1000*k) (fun k q=>[(10,q.1),(11,.int .i64 k),(21,.any),(22,.any),(23,.any),(24,.any),(25,.any),(26,.any),(27,.any),(28,.any),(29,.any),(32,.any),(33,.any),(12,.any),(34,.any),(35,.any),(36,.any),(38,.any),(39,.any),(37,.any),(40,.any),(41,.any),(13,.any),(14,.any),(42,.any),(44,.any),(45,.any),(46,.any),(47,.any),(48,.any),(49,.any),(43,.any),(50,.any),(51,.any),(15,.any),(16,.any),(52,.any),(54,.any),(55,.any),(56,.any),(57,.any),(58,.any),(59,.any),(60,.any),(61,.any),(62,.any),(63,.any),(64,.any),(65,.any),(66,.any),(53,.any),(67,.any),(68,.any),(69,.any),(70,.any),(17,.any),(18,.any),(19,.any),(20,.any),(71,.any),(72,.any),(73,.any),(74,.any),(30,.any),(31,.any)]) (fun k q=>s++(.cells [row p.funcs,.int .i64 p.mutexes,row p.conds,row p.semas,row p.chans,row p.choices,.int .i64 p.threads] :: .cells (playC p c ((l.take most.toNat).take k)).1.lv :: .cells Z10 :: q.2.2)) (fun _ q=>q.2.1) ?_ ?_
 ·exact⟨(.nils,v,[]),⟨GroE.nil _,by simp [playC]⟩,fz0,rfl,rfl⟩
 rintro k ⟨xs,v1,J⟩ hk ⟨hG,hb⟩
 simp only at hG hb
 have hgc:=hG.gro.cells
 have hinv:=playC_inv hp h ((l.take most.toNat).take k)
 by_cases hlt:k<(l.take most.toNat).length
 ·have hsucc:=play_succ (p:=p) (c:=c) hlt
  have hlt2:k<l.length∧(k:Int)<most:=by rw [List.length_take] at hlt;omega
  have hnk:nth (l.take most.toNat) k=nth l k:=by
   unfold nth;rw [List.getD_eq_getElem?_getD,List.getD_eq_getElem?_getD,List.getElem?_take_of_lt (by omega)]
  rw [hnk] at hsucc
  have hpb:=pick_bd hp hinv (nth l k)
  have hb2:(playC p c ((l.take most.toNat).take (k+1))).2.length≤1000*(k+1):=by rw [hsucc];simp only [List.length_append];omega
  generalize (playC p c ((l.take most.toNat).take k)).2=ev at *
  generalize hy:(playC p c ((l.take most.toNat).take k)).1=y at *
  have hsz:=hinv.nthr.2
  have hin:=in_p (c:=y) (by omega) 0
  have hilen:=inK_len y 0 y.threads.length
  have hinm:=fun t=> @inC_mem y 0 t
  have hxk:=ix_in (l:=l) (i:=(k:Int)) (by omega) (by omega)
  clear hnk
  obtain⟨hk1,hk2⟩:=hlt2
  have hk1':(k:Int)<l.length:=by omega
  by_cases hz:(inC y 0).length=0
  ·have hpk:pickC p y (nth l k)=(if (nextC y).2=true then ((tickC y ((nextC y).1 - y.now)).1,[]) else (y,[])):=by unfold pickC;rw [if_pos hz]
   rw [hpk] at hsucc hpb
   have hnx:=next_p (c:=y) (by omega)
   have hni:=next_in hinv
   have hnow:=hinv.now
   generalize inC y 0=l0 at *
   generalize nextC y=nx at *
   obtain⟨a,is⟩:=nx
   simp only at hni hsucc hnx
   cases is
   ·simp only [Bool.false_eq_true,if_false] at hsucc
    simp only [List.append_nil] at hsucc
    have hG2:GroE v v1 (playC p c ((l.take most.toNat).take (k+1))).2 xs:=by rw [hsucc];exact hG
    have hst:(playC p c ((l.take most.toNat).take (k+1))).1=y:=by rw [hsucc]
    clear hsucc hpk hni hpb hG hy
    generalize hq:playC p c ((l.take most.toNat).take (k+1))=q at *
    simp only [Cor.lv,Z10]
    repeat' (first|(with_reducible first|refine uk ?_|refine wk ?_ ?_<;>intro _|(refine dr P32 mixed ?_ ?_ ?_;kernel_rfl;kernel_rfl)|refine And.intro ?_ ?_|refine callC hin (fun v2 hv2=>?_)|refine callC hnx (fun v3 hv3=>?_))|simp -implicitDefEqProofs(disch:=first|assumption|omega)[*])
    all_goals exact⟨hlt,(xs,v3,J),⟨by rw [hq];exact(GroC.mono hG2 (hv2.trans hv3)),by rw [hq];exact hb2⟩,fz,by simp [hq,hst,Cor.lv,Z10],rfl⟩
   ·simp only [if_true,List.append_nil] at hsucc
    have hni:=hni rfl
    have htk:=tick_p hp hinv (n:=a - y.now) (by omega) (by omega)
    have hti:=tickC_inv hinv (a - y.now)
    generalize tickC y (a - y.now)=tk at *
    obtain⟨z,w⟩:=tk
    simp only at htk hsucc
    have hG2:GroE v v1 (playC p c ((l.take most.toNat).take (k+1))).2 xs:=by rw [hsucc];exact hG
    have hst:(playC p c ((l.take most.toNat).take (k+1))).1=z:=by rw [hsucc]
    clear hsucc hpk hpb hG hy
    generalize hq:playC p c ((l.take most.toNat).take (k+1))=q at *
    simp only [Cor.lv,Z10] at htk ⊢
    repeat' (first|(with_reducible first|refine uk ?_|refine wk ?_ ?_<;>intro _|(refine dr P32 mixed ?_ ?_ ?_;kernel_rfl;kernel_rfl)|refine And.intro ?_ ?_|refine callC hin (fun v2 hv2=>?_)|refine callC hnx (fun v3 hv3=>?_)|refine callC htk (fun v4 hv4=>?_))|simp -implicitDefEqProofs(disch:=first|assumption|omega)[*])
    all_goals exact⟨hlt,(xs,v4,J++[.cells [.int .i64 z.now,row z.threads,row z.owners,row z.counts,row z.bufs,row z.lockq,row z.waitq,row z.downq,row z.sendq,row z.recvq]]),⟨by rw [hq];exact(GroC.mono hG2 (hv2.trans (hv3.trans hv4))),by rw [hq];exact hb2⟩,fz,by simp [hq,hst,Cor.lv,Z10],rfl⟩
  ·have hpk:pickC p y (nth l k)=((stepC p y (at' (inC y 0) (around (nth l k) (inC y 0).length))).1,(stepC p y (at' (inC y 0) (around (nth l k) (inC y 0).length))).2.1):=by unfold pickC;rw [if_neg hz]
   have hz':¬ ((inC y 0).length:Int)=0:=by omega
   have har:=around_p (n:=nth l k) (m:=(inC y 0).length) (hI _ (nth_mem hk1)) (by omega)
   have hai:=around_in (n:=nth l k) (m:=(inC y 0).length) (by omega)
   have hxa:=ix_in (l:=inC y 0) hai.1 hai.2
   have hmem:=hinm _ (at_in hai.1 hai.2)
   have hstp:=step_p hp hinv hmem.1 hmem.2.1 hmem.2.2
   have hstc:stepC p y (at' (inC y 0) (around (nth l k) (inC y 0).length))=((stepX p y (at' (inC y 0) (around (nth l k) (inC y 0).length))).c,(stepX p y (at' (inC y 0) (around (nth l k) (inC y 0).length))).seen,wokenOf (stepX p y (at' (inC y 0) (around (nth l k) (inC y 0).length))) (at' (inC y 0) (around (nth l k) (inC y 0).length)),0):=by
    unfold stepC
    rw [if_neg (by omega),if_neg (by omega)]
   rw [hpk,hstc] at hsucc hpb
   simp only at hsucc hpb
   clear hstc hpk hinm
   have hat:at' (inC y 0) (around (nth l k) (inC y 0).length)=nth (inC y 0) (around (nth l k) (inC y 0).length).toNat:=rfl
   rw [hat] at hstp hsucc hmem hpb
   clear hat
   generalize around (nth l k) (inC y 0).length=r at *
   generalize inC y 0=l0 at *
   generalize wokenOf (stepX p y (nth l0 r.toNat)) (nth l0 r.toNat)=w at *
   generalize stepX p y (nth l0 r.toNat)=z at *
   have hst:(playC p c ((l.take most.toNat).take (k+1))).1=z.c:=by rw [hsucc]
   have hev:(playC p c ((l.take most.toNat).take (k+1))).2=ev++z.seen:=by rw [hsucc]
   clear hsucc hy hinv
   generalize hq:playC p c ((l.take most.toNat).take (k+1))=q at *
   simp only [Cor.lv,Z10] at hstp ⊢
   repeat' (first|(with_reducible first|refine uk ?_|refine wk ?_ ?_<;>intro _|(refine dr P32 mixed ?_ ?_ ?_;kernel_rfl;kernel_rfl)|refine And.intro ?_ ?_|refine callC hin (fun v2 hv2=>?_)|refine callE har ?_|refine callC hstp (fun v3 hv3=>?_))|simp -implicitDefEqProofs(disch:=first|assumption|omega)[*])
   all_goals
    have hG2:GroE v v3 ev xs:=GroC.mono hG (hv2.trans hv3)
    obtain⟨x4,v4,g4,_,ga⟩:=hG2.appr (P:=Tryz.prog) (t:=65) (t2:=65) (by_:=24) (by kernel_rfl) (by omega) z.seen (by omega)
    have hc4:=g4.gro.cells
    repeat' (first|(with_reducible first|refine uk ?_|refine wk ?_ ?_<;>intro _|(refine dr P32 mixed ?_ ?_ ?_;kernel_rfl;kernel_rfl)|refine And.intro ?_ ?_)|simp -implicitDefEqProofs(disch:=first|assumption|omega)[*])
    exact⟨hlt,(x4,v4,J++[.cells [.int .i64 z.c.now,row z.c.threads,row z.c.owners,row z.c.counts,row z.c.bufs,row z.c.lockq,row z.c.waitq,row z.c.downq,row z.c.sendq,row z.c.recvq]]),⟨by rw [hq,hev];exact g4,by rw [hq];exact hb2⟩,fz,by simp [hq,hst,Cor.lv,Z10],rfl⟩
 ·have hke:k=(l.take most.toNat).length:=by omega
  have hlt2:¬ ((k:Int)<l.length)∨¬ (k:Int)<most:=by rw [List.length_take] at hlt;omega
  subst hke
  rw [List.take_of_length_le (Nat.le_refl _)] at hG hb
  have hfull:(l.take most.toNat).take (l.take most.toNat).length=l.take most.toNat:=List.take_of_length_le (Nat.le_refl _)
  generalize hk0:(l.take most.toNat).length=k0 at *
  have hgw:=hG.gro.weak
  have hgu:=hG.gro.under
  have hpre:=hG.1
  simp only [hfull]
  generalize playC p c (l.take most.toNat)=q at *
  simp only [Cor.lv,Z10]
  by_cases hkl:(k0:Int)<l.length
  ·have hkm:¬ (k0:Int)<most:=hlt2.resolve_left (fun h=>h hkl)
   repeat' (first|(with_reducible first|refine uk ?_|refine wk ?_ ?_<;>intro _|(refine dr P32 mixed ?_ ?_ ?_;kernel_rfl;kernel_rfl)|refine And.intro ?_ ?_)|simp -implicitDefEqProofs(disch:=first|assumption|omega)[*])
   all_goals refine Ends.at (by simp [hgu]) ?_ hpre
   all_goals exact Weak.tup ⟨Weak.refl _,hgw,trivial⟩
  ·repeat' (first|(with_reducible first|refine uk ?_|refine wk ?_ ?_<;>intro _|(refine dr P32 mixed ?_ ?_ ?_;kernel_rfl;kernel_rfl)|refine And.intro ?_ ?_)|simp -implicitDefEqProofs(disch:=first|assumption|omega)[*])
   all_goals refine Ends.at (by simp [hgu]) ?_ hpre
   all_goals exact Weak.tup ⟨Weak.refl _,hgw,trivial⟩
theorem lists_p {L:List (List Int)} (hb:L.length≤10000000∧∀ l∈L,l.length≤10000000):PureC Tryz.prog 108 [row L] (row L):=fun s v=>by
 refine aCalls_deep (aCalls_mono (lists_o hb.1 hb.2) ?_)
 rintro x s' v' ⟨J,d,cs,rfl,hR,hd,hd2,hG⟩
 exact⟨J,row L,rfl,hR.deep (by omega) hG.weak.deep,rfl,rfl,hG.pre⟩
theorem clone11_o {c:Cor} (hb:CorB c) (hthr:∀ t∈c.threads,ThrB t) (h0:c.threads≠[]) {s:List AObj} {v:List Nat} : aCalls Tryz.prog 34 [.agg [.int .i64 c.now,row c.threads,row c.owners,row c.counts,row c.bufs,row c.lockq,row c.waitq,row c.downq,row c.sendq,row c.recvq]] s v (CloR c s v):=by
 have hl:=hb.threads
 have hb1:=lists_p hb.bufs.big
 have hb2:=lists_p hb.lockq.big
 have hb3:=lists_p hb.waitq.big
 have hb4:=lists_p hb.downq.big
 have hb5:=lists_p hb.sendq.big
 have hb6:=lists_p hb.recvq.big
 refine ac1 Tryz.func34 Tryz.ntmps34 ?_
 have hrs:Tryz.f34.results = #[.cell 2 29]:=rfl
 repeat' (first|(with_reducible first|refine uk ?_|refine wk ?_ ?_<;>intro _)|simp -implicitDefEqProofs(disch:=first|assumption|omega)[*])
 refine aW_for (β:=List Nat × List AObj × Nat × LV) true c.threads.length (fun k q=>v <+: q.1∧RowR (s++(AObj.cells [.int .i64 c.now,row c.threads,row c.owners,row c.counts,row c.bufs,row c.lockq,row c.waitq,row c.downq,row c.sendq,row c.recvq] :: AObj.cells [.int .i64 0,.nils,.nils,.nils,.nils,.nils,.nils,.nils,.nils,.nils] :: q.2.1)) 5 k (rowCs (c.threads.take k)) q.2.2.2 (s.length+(q.2.2.1+2))∧(k≠0→q.2.2.1<q.2.1.length)) (fun k q=>[(3,q.2.2.2),(4,.int .i64 k),(7,.any),(8,.any),(9,.any),(10,.any),(11,.any),(14,.any),(15,.any),(16,.any),(17,.any),(18,.any),(19,.any),(20,.any),(21,.any),(22,.any),(12,.any),(13,.any)]) (fun _ q=>s++(AObj.cells [.int .i64 c.now,row c.threads,row c.owners,row c.counts,row c.bufs,row c.lockq,row c.waitq,row c.downq,row c.sendq,row c.recvq] :: AObj.cells [.int .i64 0,.nils,.nils,.nils,.nils,.nils,.nils,.nils,.nils,.nils] :: q.2.1)) (fun _ q=>q.1) ?_ ?_
 ·exact⟨(v,[],0,.nils),⟨List.prefix_refl _,.inl ⟨rfl,rfl,rfl⟩,by simp⟩,fz0,rfl,rfl⟩
 rintro k ⟨v1,J,d,x⟩ hk ⟨hv1,hR,hd⟩
 simp only at hv1 hR hd
 have hxc:=hR.cells
 by_cases hlt:k<c.threads.length
 ·have hx:=ix_in (l:=c.threads) (i:=(k:Int)) (by omega) (by omega)
  rw [Int.toNat_natCast] at hx
  have htk:rowCs (c.threads.take (k+1))=rowCs (c.threads.take k)++(nth c.threads k).lv:=by rw [take_succ_nth hlt];simp [rowCs,Enc.enc]
  have hcl:=rclone_p (st:=(nth c.threads k).state) (on:=(nth c.threads k).on) (fr:=(nth c.threads k).frames) (sk:=(nth c.threads k).stack) (co:=(nth c.threads k).code) (hthr _ (nth_mem hlt))
  obtain⟨J2,ha,hR2,hJ2⟩:=thr_step (P:=Tryz.prog) (t:=27) (t2:=27) (by_:=72) (by kernel_rfl) (by omega) hR hd (ds:=(nth c.threads k).lv) rfl (by omega)
  have ha':=ha (.ref 5 (s.length+(J.length+2)) 0 1 true) (by simp [aCells,Thr.lv])
  clear ha
  simp only [Thr.lv] at ha'
  have hlt':(k:Int)<c.threads.length:=by omega
  repeat' (first|(with_reducible first|refine uk ?_|refine wk ?_ ?_<;>intro _|refine callC hcl (fun v2 hv2=>?_))|simp -implicitDefEqProofs(disch:=first|assumption|omega)[*])
  rw [← htk] at hR2
  exact⟨hlt,(v2,J2,J.length+1,_),⟨hv1.trans hv2,hR2,fun _=>by show J.length+1<J2.length;omega⟩,fz,by simp,rfl⟩
 ·have:k=c.threads.length:=by omega
  subst this
  rw [List.take_of_length_le (Nat.le_refl _)] at hR
  obtain⟨xO,JO,haO,hxO,hO⟩:=own_nil_r (P:=Tryz.prog) (t:=23) (t2:=23) (by kernel_rfl) (l:=c.owners) (by have:=hb.owners;omega) s J (AObj.cells [.int .i64 c.now,x,row c.owners,row c.counts,row c.bufs,row c.lockq,row c.waitq,row c.downq,row c.sendq,row c.recvq]) (AObj.cells [.int .i64 0,.nils,.nils,.nils,.nils,.nils,.nils,.nils,.nils,.nils])
  obtain⟨xC,JC,haC,hxC,hC⟩:=own_nil_r (P:=Tryz.prog) (t:=23) (t2:=23) (by kernel_rfl) (l:=c.counts) (by have:=hb.counts;omega) s (J++JO) (AObj.cells [.int .i64 c.now,x,xO,row c.counts,row c.bufs,row c.lockq,row c.waitq,row c.downq,row c.sendq,row c.recvq]) (AObj.cells [.int .i64 0,.nils,.nils,.nils,.nils,.nils,.nils,.nils,.nils,.nils])
  simp only [List.append_assoc] at haC
  have hn0:c.threads.length≠0:=fun e=>h0 (List.length_eq_zero_iff.1 e)
  have hd':=hd hn0
  obtain⟨_,hrx,rfl,hJ,_⟩:=hR.resolve_left fun h=>hn0 h.1
  rw [layB_get] at hJ
  repeat' (first|(with_reducible first|refine uk ?_|refine wk ?_ ?_<;>intro _|refine callC hb1 (fun v2 hv2=>?_)|refine callC hb2 (fun v3 hv3=>?_)|refine callC hb3 (fun v4 hv4=>?_)|refine callC hb4 (fun v5 hv5=>?_)|refine callC hb5 (fun v6 hv6=>?_)|refine callC hb6 (fun v7 hv7=>?_))|simp -implicitDefEqProofs(disch:=first|assumption|omega)[*])
  refine⟨_ :: _ :: (J++(JO++JC)),d+2,xO,xC,J.length+2,(J++JO).length+2,rfl,?_,hO _ _ JC,?_,by omega,⟨by simp;omega,fun h0=>by have hl:=(hO (AObj.cells [.int .i64 0,.nils,.nils,.nils,.nils,.nils,.nils,.nils,.nils,.nils]) (AObj.cells [.int .i64 0,.nils,.nils,.nils,.nils,.nils,.nils,.nils,.nils,.nils]) []).lt h0;simp at hl;rw [List.length_append];omega⟩,by first|exact hv1|exact hv1.trans (hv2.trans (hv3.trans (hv4.trans (hv5.trans (hv6.trans hv7))))),rfl⟩
  ·show (J++(JO++JC))[d]? = _
   rw [List.getElem?_append_left hd'];exact hJ
  ·have:=hC (AObj.cells [.int .i64 c.now,.ref 5 (s.length+(d+2)) 0 c.threads.length false,xO,xC,row c.bufs,row c.lockq,row c.waitq,row c.downq,row c.sendq,row c.recvq]) (AObj.cells [.int .i64 c.now,.ref 5 (s.length+(d+2)) 0 c.threads.length false,xO,xC,row c.bufs,row c.lockq,row c.waitq,row c.downq,row c.sendq,row c.recvq]) []
   simpa using this
theorem make17_p {p:Prog} {l:List Int} {e:Int} (h:OkProg p) (hl:OkRow I64 l) (he:I64 e):PureC Tryz.prog 10 [.agg p.lv,row l,.int .i64 e] (.agg (.int .i64 3 :: .int .i64 (around e 1000) :: ((good p).lv++(playC (good p) (coreNew (good p)) (l.take 80)).1.lv))):=by
 have hg:=good_ok h
 have hp:=mayP_iff (good_may p)
 generalize good p=g at *
 have hll:l.length≤9223372036854775807:=by have:=hl.2;omega
 have hnw:=new11_p hp
 have hpl:=play_p hp (coreNew_inv hp) (l:=l) (most:=80) hll hl.1 (by omega) (by omega)
 rw [show (80:Int).toNat=80 from rfl] at hpl
 have har:=around_p (n:=e) (m:=1000) he (by omega)
 generalize (playC g (coreNew g) (l.take 80)).2=ev at *
 generalize (playC g (coreNew g) (l.take 80)).1=y at *
 generalize coreNew g=n at *
 refine .of fun s v=>?_
 simp only [Prog.lv,Cor.lv] at hg hnw hpl ⊢
 refine ac0 Tryz.func10 Tryz.ntmps10 ?_
 have hrs:Tryz.f10.results = #[.cell 6 31]:=rfl
 repeat' (first|(with_reducible first|refine uk ?_|refine wk ?_ ?_<;>intro _|(refine dr P10 mixed ?_ ?_ ?_;kernel_rfl;kernel_rfl)|refine And.intro ?_ ?_|refine callC hg (fun v1 hv1=>?_)|refine callC hnw (fun v2 hv2=>?_)|refine callC hpl (fun v3 hv3=>?_)|refine callE har ?_)|simp -implicitDefEqProofs(disch:=first|assumption|omega)[*])
 all_goals exact Ends.eqat rfl (by simp) (hv1.trans (hv2.trans hv3))
@[simp] def P142:Nat→Plan
 | 6=>(.qs [0,1,2,3,4,5,6,7,8] .nil)
 | _=>.nil
@[simp] def P119:Nat→Plan
 | 6=>(.qs [0,1,2,3,4,5,6,7,8] .nil)
 | _=>.nil
@[simp] def P141:Nat→Plan
 | 6=>(.qs [0,1,2,3,4,5,6,7,8] .nil)
 | _=>.nil
@[simp] def P120:Nat→Plan
 | 6=>(.qs [0,1,2,3,4,5,6,7] (.w 8 [] (.qs [9] .nil)))
 | _=>.nil
theorem ins_ne {x y:Ins} (h:x≠y):¬ (x.op=y.op∧x.a=y.a):=fun ⟨h1,h2⟩=>h (by cases x;cases y;simp_all)
theorem rsameI_p {a b:List Int} (ha:a.length≤9223372036854775807):PureE Tryz.prog 119 [row a,row b] (.bool (decide (a=b))):=by
 refine .of fun s v=>?_
 refine ac0 Tryz.func119 Tryz.ntmps119 ?_
 have hrs:Tryz.f119.results = #[.tmp 4]:=rfl
 by_cases hl:a.length=b.length
 ·repeat' (first|(with_reducible first|refine uk ?_|refine wk ?_ ?_<;>intro _|(refine dr P119 mixed ?_ ?_ ?_;kernel_rfl;kernel_rfl))|simp -implicitDefEqProofs(disch:=first|assumption|omega)[*])
  refine aW_for (β:=Unit) false a.length (fun k _=>a.take k=b.take k) (fun k _=>[(5,.int .i64 k),(11,.any),(12,.any),(13,.any),(14,.any),(17,.any),(18,.any),(19,.any),(20,.any),(21,.any),(22,.any),(23,.any),(24,.any),(25,.any),(4,.any),(15,.any),(16,.any)]) (fun _ _=>s) (fun _ _=>v) ?_ ?_
  ·exact⟨(),by simp,fz0,rfl,rfl⟩
  rintro k _ hk hI
  by_cases hlt:k<a.length
  ·have hlb:k<b.length:=by omega
   by_cases hn:nth a k=nth b k
   ·repeat' (first|(with_reducible first|refine uk ?_|refine wk ?_ ?_<;>intro _|(refine dr P119 mixed ?_ ?_ ?_;kernel_rfl;kernel_rfl))|simp -implicitDefEqProofs(disch:=first|assumption|omega)[*])
    exact⟨hlt,(),by show a.take (k+1)=b.take (k+1);rw [take_succ_nth hlt,take_succ_nth hlb,hI,hn],fz,rfl,rfl⟩
   ·have hd:a≠b:=by rintro rfl;exact hn rfl
    repeat' (first|(with_reducible first|refine uk ?_|refine wk ?_ ?_<;>intro _|(refine dr P119 mixed ?_ ?_ ?_;kernel_rfl;kernel_rfl))|simp -implicitDefEqProofs(disch:=first|assumption|omega)[*])
    all_goals exact EndsE.eq (by simp [hd]) (by simp)
  ·have:k=a.length:=by omega
   subst this
   have hd:a=b:=by rw [List.take_of_length_le (Nat.le_refl _),List.take_of_length_le (by omega)] at hI;exact hI
   repeat' (first|(with_reducible first|refine uk ?_|refine wk ?_ ?_<;>intro _|(refine dr P119 mixed ?_ ?_ ?_;kernel_rfl;kernel_rfl))|simp -implicitDefEqProofs(disch:=first|assumption|omega)[*])
   all_goals exact EndsE.eq (by simp [hd]) (by simp)
 ·have hd:a≠b:=by rintro rfl;exact hl rfl
  have hl':(a.length:Int)≠b.length:=by omega
  repeat' (first|(with_reducible first|refine uk ?_|refine wk ?_ ?_<;>intro _|(refine dr P119 mixed ?_ ?_ ?_;kernel_rfl;kernel_rfl))|simp -implicitDefEqProofs(disch:=first|assumption|omega)[*])
  all_goals exact EndsE.eq (by simp [hd]) (by simp)
theorem rsameL_p {a b:List (List Int)} (ha:a.length≤9223372036854775807) (hr:∀ k<a.length,(nth a k).length≤9223372036854775807):PureE Tryz.prog 120 [row a,row b] (.bool (decide (a=b))):=by
 refine .of fun s v=>?_
 refine ac0 Tryz.func120 Tryz.ntmps120 ?_
 have hrs:Tryz.f120.results = #[.tmp 4]:=rfl
 by_cases hl:a.length=b.length
 ·repeat' (first|(with_reducible first|refine uk ?_|refine wk ?_ ?_<;>intro _|(refine dr P120 mixed ?_ ?_ ?_;kernel_rfl;kernel_rfl)|refine callE (by assumption) ?_)|simp -implicitDefEqProofs(disch:=first|assumption|omega)[*])
  refine aW_for (β:=Unit) false a.length (fun k _=>a.take k=b.take k) (fun k _=>[(5,.int .i64 k),(11,.any),(12,.any),(13,.any),(14,.any),(17,.any),(18,.any),(19,.any),(20,.any),(21,.any),(22,.any),(23,.any),(24,.any),(25,.any),(26,.any),(4,.any),(15,.any),(16,.any)]) (fun _ _=>s) (fun _ _=>v) ?_ ?_
  ·exact⟨(),by simp,fz0,rfl,rfl⟩
  rintro k _ hk hI
  by_cases hlt:k<a.length
  ·have hlb:k<b.length:=by omega
   by_cases hn:nth a k=nth b k
   ·have hc:=rsameI_p (a:=nth b k) (b:=nth b k) (by rw [← hn];exact hr k hlt)
    simp only [decide_true] at hc
    repeat' (first|(with_reducible first|refine uk ?_|refine wk ?_ ?_<;>intro _|(refine dr P120 mixed ?_ ?_ ?_;kernel_rfl;kernel_rfl)|refine callE (by assumption) ?_)|simp -implicitDefEqProofs(disch:=first|assumption|omega)[*])
    exact⟨hlt,(),by show a.take (k+1)=b.take (k+1);rw [take_succ_nth hlt,take_succ_nth hlb,hI,hn],fz,rfl,rfl⟩
   ·have hc:=rsameI_p (a:=nth a k) (b:=nth b k) (hr k hlt)
    simp only [hn,decide_false] at hc
    have hd:a≠b:=by rintro rfl;exact hn rfl
    repeat' (first|(with_reducible first|refine uk ?_|refine wk ?_ ?_<;>intro _|(refine dr P120 mixed ?_ ?_ ?_;kernel_rfl;kernel_rfl)|refine callE (by assumption) ?_)|simp -implicitDefEqProofs(disch:=first|assumption|omega)[*])
    all_goals exact EndsE.eq (by simp [hd]) (by simp)
  ·have:k=a.length:=by omega
   subst this
   have hd:a=b:=by rw [List.take_of_length_le (Nat.le_refl _),List.take_of_length_le (by omega)] at hI;exact hI
   repeat' (first|(with_reducible first|refine uk ?_|refine wk ?_ ?_<;>intro _|(refine dr P120 mixed ?_ ?_ ?_;kernel_rfl;kernel_rfl)|refine callE (by assumption) ?_)|simp -implicitDefEqProofs(disch:=first|assumption|omega)[*])
   all_goals exact EndsE.eq (by simp [hd]) (by simp)
 ·have hd:a≠b:=by rintro rfl;exact hl rfl
  have hl':(a.length:Int)≠b.length:=by omega
  repeat' (first|(with_reducible first|refine uk ?_|refine wk ?_ ?_<;>intro _|(refine dr P120 mixed ?_ ?_ ?_;kernel_rfl;kernel_rfl)|refine callE (by assumption) ?_)|simp -implicitDefEqProofs(disch:=first|assumption|omega)[*])
  all_goals exact EndsE.eq (by simp [hd]) (by simp)
@[simp] def P41:Nat→Plan
 | 13=>(.qs [0,1,2,3,4,5,6,7,8,9,10] .nil)
 | _=>.nil
instance:DecidableEq Prog:=fun a b=>decidable_of_iff (a.funcs=b.funcs∧a.mutexes=b.mutexes∧a.conds=b.conds∧a.semas=b.semas∧a.chans=b.chans∧a.choices=b.choices∧a.threads=b.threads)
 ⟨fun ⟨h1,h2,h3,h4,h5,h6,h7⟩=>by cases a;cases b;simp_all,fun h=>by subst h;exact⟨rfl,rfl,rfl,rfl,rfl,rfl,rfl⟩⟩
set_option maxHeartbeats 8000000 in
theorem rsame_p {fs fs':List Fn_} {mu th mu' th':Int} {co se ch co' se' ch':List Int} {cho cho':List (List Int)} (hp:OkProg ⟨fs,mu,co,se,ch,cho,th⟩) :
  PureE Tryz.prog 41 [.agg [row fs,.int .i64 mu,row co,row se,row ch,row cho,.int .i64 th],.agg [row fs',.int .i64 mu',row co',row se',row ch',row cho',.int .i64 th']] (.bool (decide ((⟨fs,mu,co,se,ch,cho,th⟩:Prog)=⟨fs',mu',co',se',ch',cho',th'⟩))):=by
 obtain⟨⟨h1,k1⟩,h2,⟨h3,k3⟩,⟨h4,k4⟩,⟨h5,k5⟩,⟨h6,k6⟩,h7⟩:=hp
 simp only at *
 refine .of fun s v=>?_
 have e2:=rsameI_p (a:=co) (b:=co') (by omega)
 have e3:=rsameI_p (a:=se) (b:=se') (by omega)
 have e4:=rsameI_p (a:=ch) (b:=ch') (by omega)
 have e5:=rsameL_p (a:=cho) (b:=cho') (by omega) (fun k hk=>by have:=(h6 (nth cho k) (by rw [nth_eq hk];exact List.getElem_mem hk)).2;omega)
 have hr:∀ k<fs.length,(nth fs k).code.length≤9223372036854775807:=fun k hk=>by have:=(h1 (nth fs k) (by rw [nth_eq hk];exact List.getElem_mem hk)).2.2;omega
 clear h1 h2 h3 h4 h5 h6 h7 k3 k4 k5 k6
 by_cases hl:fs.length=fs'.length
 ·refine ac0 Tryz.func41 Tryz.ntmps41 ?_
  have hrs:Tryz.f41.results = #[.tmp 4]:=rfl
  repeat' (first|(with_reducible first|refine uk ?_|refine wk ?_ ?_<;>intro _|(refine dr P41 mixed ?_ ?_ ?_;kernel_rfl;kernel_rfl))|simp -implicitDefEqProofs(disch:=first|assumption|omega)[*])
  refine aW_for (β:=List AObj) false fs.length (fun k _=>fs.take k=fs'.take k) (fun k _=>[(5,.int .i64 k),(16,.any),(17,.any),(18,.any),(19,.any),(20,.any),(23,.any),(24,.any),(25,.any),(26,.any),(27,.any),(6,.any),(28,.any),(29,.any),(30,.any),(31,.any),(32,.any),(7,.any),(33,.any),(34,.any),(35,.any),(36,.any),(37,.any),(38,.any),(39,.any),(40,.any),(41,.any),(42,.any),(43,.any),(44,.any),(45,.any),(46,.any),(4,.any),(8,.any),(47,.any),(48,.any),(49,.any),(50,.any),(51,.any),(54,.any),(55,.any),(56,.any),(57,.any),(58,.any),(59,.any),(60,.any),(61,.any),(62,.any),(63,.any),(64,.any),(52,.any),(53,.any),(21,.any),(22,.any)]) (fun _ J=>s++(.cells [row fs,.int .i64 mu,row co,row se,row ch,row cho,.int .i64 th] :: .cells [row fs',.int .i64 mu',row co',row se',row ch',row cho',.int .i64 th'] :: J)) (fun _ _=>v) ?_ ?_
  ·exact⟨[],by simp,fz0,by simp,rfl⟩
  rintro k J hk hI
  by_cases hlt:k<fs.length
  ·have hlb:k<fs'.length:=by omega
   have hrk:=hr k hlt
   by_cases hn:nth fs k=nth fs' k
   ·rw [hn] at hrk
    repeat' (first|(with_reducible first|refine uk ?_|refine wk ?_ ?_<;>intro _|(refine dr P41 mixed ?_ ?_ ?_;kernel_rfl;kernel_rfl))|simp -implicitDefEqProofs(disch:=first|assumption|omega)[*])
    refine aWl_for (β:=Unit) false (nth fs' k).code.length (fun _ _=>True) (fun j _=>[(8,.int .i64 j),(47,.any),(48,.any),(49,.any),(50,.any),(51,.any),(54,.any),(55,.any),(56,.any),(57,.any),(58,.any),(59,.any),(60,.any),(61,.any),(62,.any),(63,.any),(64,.any),(4,.any),(52,.any),(53,.any)]) (fun _ _=>s++(.cells [row fs,.int .i64 mu,row co,row se,row ch,row cho,.int .i64 th] :: .cells [row fs',.int .i64 mu',row co',row se',row ch',row cho',.int .i64 th'] :: (J++[.cells [.int .i64 (nth fs' k).locals,row (nth fs' k).code],.cells [.int .i64 (nth fs' k).locals,row (nth fs' k).code]]))) (fun _ _=>v) ?_ ?_
    ·exact⟨(),trivial,fz0,by simp,rfl⟩
    rintro j _ hj _
    by_cases hjl:j<(nth fs' k).code.length
    ·repeat' (first|(with_reducible first|refine uk ?_|refine wk ?_ ?_<;>intro _|(refine dr P41 mixed ?_ ?_ ?_;kernel_rfl;kernel_rfl))|simp -implicitDefEqProofs(disch:=first|assumption|omega)[*])
     exact⟨hjl,(),trivial,fz,rfl,rfl⟩
    ·have:j=(nth fs' k).code.length:=by omega
     subst this
     repeat' (first|(with_reducible first|refine uk ?_|refine wk ?_ ?_<;>intro _|(refine dr P41 mixed ?_ ?_ ?_;kernel_rfl;kernel_rfl))|simp -implicitDefEqProofs(disch:=first|assumption|omega)[*])
     exact⟨hlt,_,by show fs.take (k+1)=fs'.take (k+1);rw [take_succ_nth hlt,take_succ_nth hlb,hI,hn],fz,rfl,rfl⟩
   ·have hd:fs≠fs':=by rintro rfl;exact hn rfl
    by_cases ha:(nth fs k).locals=(nth fs' k).locals
    ·by_cases hb:(nth fs k).code.length=(nth fs' k).code.length
     ·repeat' (first|(with_reducible first|refine uk ?_|refine wk ?_ ?_<;>intro _|(refine dr P41 mixed ?_ ?_ ?_;kernel_rfl;kernel_rfl))|simp -implicitDefEqProofs(disch:=first|assumption|omega)[*])
      refine aWl_for (β:=Unit) false (nth fs k).code.length (fun j _=>(nth fs k).code.take j=(nth fs' k).code.take j) (fun j _=>[(8,.int .i64 j),(47,.any),(48,.any),(49,.any),(50,.any),(51,.any),(54,.any),(55,.any),(56,.any),(57,.any),(58,.any),(59,.any),(60,.any),(61,.any),(62,.any),(63,.any),(64,.any),(4,.any),(52,.any),(53,.any)]) (fun _ _=>s++(.cells [row fs,.int .i64 mu,row co,row se,row ch,row cho,.int .i64 th] :: .cells [row fs',.int .i64 mu',row co',row se',row ch',row cho',.int .i64 th'] :: (J++[.cells [.int .i64 (nth fs' k).locals,row (nth fs k).code],.cells [.int .i64 (nth fs' k).locals,row (nth fs' k).code]]))) (fun _ _=>v) ?_ ?_
      ·exact⟨(),by simp,fz0,by simp [ha],rfl⟩
      rintro j _ hj hJ
      by_cases hjl:j<(nth fs k).code.length
      ·have hjb:j<(nth fs' k).code.length:=by omega
       by_cases hq:nth (nth fs k).code j=nth (nth fs' k).code j
       ·repeat' (first|(with_reducible first|refine uk ?_|refine wk ?_ ?_<;>intro _|(refine dr P41 mixed ?_ ?_ ?_;kernel_rfl;kernel_rfl))|simp -implicitDefEqProofs(disch:=first|assumption|omega)[*])
        exact⟨hjl,(),by show (nth fs k).code.take (j+1)=(nth fs' k).code.take (j+1);rw [take_succ_nth hjl,take_succ_nth hjb,hJ,hq],fz,rfl,rfl⟩
       ·have hq2:=ins_ne hq
        repeat' (first|(with_reducible first|refine uk ?_|refine wk ?_ ?_<;>intro _|(refine dr P41 mixed ?_ ?_ ?_;kernel_rfl;kernel_rfl))|simp -implicitDefEqProofs(disch:=first|assumption|omega)[*])
        all_goals exact EndsE.eqat (by simp [hd]) (by simp)
      ·exfalso
       have:j=(nth fs k).code.length:=by omega
       subst this
       rw [List.take_of_length_le (Nat.le_refl _),List.take_of_length_le (by omega)] at hJ
       apply hn
       generalize nth fs k=x at *
       generalize nth fs' k=y at *
       cases x;cases y;simp_all
     ·have hb':((nth fs k).code.length:Int)≠(nth fs' k).code.length:=by omega
      repeat' (first|(with_reducible first|refine uk ?_|refine wk ?_ ?_<;>intro _|(refine dr P41 mixed ?_ ?_ ?_;kernel_rfl;kernel_rfl))|simp -implicitDefEqProofs(disch:=first|assumption|omega)[*])
      all_goals exact EndsE.eqat (by simp [hd]) (by simp)
    ·repeat' (first|(with_reducible first|refine uk ?_|refine wk ?_ ?_<;>intro _|(refine dr P41 mixed ?_ ?_ ?_;kernel_rfl;kernel_rfl))|simp -implicitDefEqProofs(disch:=first|assumption|omega)[*])
     all_goals exact EndsE.eqat (by simp [hd]) (by simp)
  ·have:k=fs.length:=by omega
   subst this
   have hd:fs=fs':=by rw [List.take_of_length_le (Nat.le_refl _),List.take_of_length_le (by omega)] at hI;exact hI
   repeat' (first|(with_reducible first|refine uk ?_|refine wk ?_ ?_<;>intro _|(refine dr P41 mixed ?_ ?_ ?_;kernel_rfl;kernel_rfl)|refine callE e2 ?_|refine callE e3 ?_|refine callE e4 ?_|refine callE e5 ?_)|simp -implicitDefEqProofs(disch:=first|assumption|omega)[*])
   all_goals (first|(exfalso;omega)|((try subst_vars);(first|refine EndsE.eq ?_ (by simp)|refine EndsE.eqat ?_ (by simp));(first|with_reducible rfl|(simp [*,Prog.mk.injEq];done)|(simp [*,Prog.mk.injEq];omega)|(simp only [LV.bool.injEq];rw [Bool.eq_iff_iff];simp [*,Prog.mk.injEq];done)|(simp only [LV.bool.injEq];rw [Bool.eq_iff_iff];simp [*,Prog.mk.injEq];omega)|(simp only [LV.bool.injEq];rw [Bool.eq_iff_iff];simp (disch:=omega) only [if_pos,if_neg,if_true,if_false, *,Prog.mk.injEq];simp<;>omega)|(simp only [LV.bool.injEq,Bool.and_eq_false_imp,Bool.and_eq_true,decide_eq_true_eq];intros;exfalso;omega)|(simp only [LV.bool.injEq,Bool.and_eq_false_imp,Bool.and_eq_true,decide_eq_true_eq];intros;simp_all;done))))
 ·have hd:fs≠fs':=by rintro rfl;exact hl rfl
  have hl':(fs.length:Int)≠fs'.length:=by omega
  refine ac0 Tryz.func41 Tryz.ntmps41 ?_
  have hrs:Tryz.f41.results = #[.tmp 4]:=rfl
  repeat' (first|(with_reducible first|refine uk ?_|refine wk ?_ ?_<;>intro _|(refine dr P41 mixed ?_ ?_ ?_;kernel_rfl;kernel_rfl))|simp -implicitDefEqProofs(disch:=first|assumption|omega)[*])
  all_goals exact EndsE.eqat (by simp [hd]) (by simp)
end Go.Hb
end
