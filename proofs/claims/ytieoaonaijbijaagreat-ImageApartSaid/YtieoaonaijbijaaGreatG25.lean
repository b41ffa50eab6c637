/-
  A layer for reasoning about the program's calls, and contracts of its functions. CONDITIONS: none; each theorem bears its own.
-/
import Derived.Test.YtieoaonaijbijaaGreatG24
set_option linter.unusedVariables false
set_option linter.unusedSimpArgs false
section
namespace Go.Hb
open Go Go.Proofs Go.RowKit
set_option maxRecDepth 100000
set_option maxHeartbeats 800000
attribute [-simp] aC aL aOper aThen aInBlock aIf aPlan aAppend aLen aIndexAddr aSlice aCells aBounds lBr aq initT aev aAppendOwn aAppendNil aAppendNew aAppendRef LV.cells LV.cellsOk getElem?_pos getElem?_neg
theorem filt_take {f:Int→Bool} {l:List Int} {j:Nat} (h:j<l.length):(l.take (j+1)).filter f=if f (nth l j)=true then (l.take j).filter f++[nth l j] else (l.take j).filter f:=by
 rw [take_succ_nth h,List.filter_append]
 by_cases e:f (nth l j)=true
 ·rw [if_pos e];simp [e]
 ·rw [if_neg e];simp [e]
theorem thr_pre {p:Prog} (hp:MayP p) {t:Thr} (h:ThrI p t) (hs:t.state≠9):PureC Tryz.prog 199 [.agg [row p.funcs,.int .i64 p.mutexes,row p.conds,row p.semas,row p.chans,row p.choices,.int .i64 p.threads],.agg t.lv] (.tup [.agg (vmStep p t).1.lv,.agg (vmStep p t).2.lv]):=by
 have hfr:=(h.live hs).1
 have htop:=h.frs _ (top_mem hfr)
 have hfm:=hp.code _ (at_in htop.1.1 htop.1.2)
 refine vmStep_p p t (thrI_b hp h) h.sks hfr htop.1.1 htop.1.2 ⟨htop.2.1.1,by have:=htop.2.1.2;omega⟩ hfm.2.2.1 fun i hi=>?_
 have hpc:(topF t).pc<(at' p.funcs (topF t).func).code.length:=by
  unfold fetch at hi
  split at hi
  ·cases hi
  ·omega
 have hii:i=at' (at' p.funcs (topF t).func).code (topF t).pc:=by
  unfold fetch at hi
  rw [if_neg (by omega)] at hi
  cases hi;rfl
 have hmay:mayI p (at' p.funcs (topF t).func) i=true:=by rw [hii];exact hfm.2.2.2 _ (at_in htop.2.1.1 hpc)
 have hl:=htop.2.2.1
 refine⟨fun ho=>?_,fun ho=>?_⟩
 ·have:=mayI_ask hmay (by rcases ho with ho | ho<;>rw [ho]<;>rfl) (by omega)
  rcases ho with ho | ho
  all_goals
   rw [ho] at this
   simp [most,mostL] at this
   omega
 ·have:=mayI_ask hmay (by rw [ho];rfl) (by omega)
  rw [ho] at this
  simp [most,mostL] at this
  have hc:=hp.code _ (at_in this.1 this.2)
  exact⟨this.1,this.2,hc.1,hc.2.1⟩
def Bd (y:Xs):Prop:=y.seen.length≤1000∧y.woken.length≤1000
theorem endF_bd {x:Xs} {t code:Int} (h0:0≤t) (h1:t<x.c.threads.length) (h:XsE 1000 x∧count2 x.c<fu):Bd (endF x t code):=by
 have hk:=end_keeps 1000 fu x t code h0 h1 h.2 h.1
 have:=hk.b.seen;have:=hk.b.woken
 exact⟨by show (endX fu x t code).seen.length≤1000;omega,by show (endX fu x t code).woken.length≤1000;omega⟩
theorem tellF_bd {x:Xs} {t:Int} {l:List Int} (h0:0≤t) (h1:t<x.c.threads.length) (h:XsE 1000 x∧count2 x.c<fu):Bd (tellF x t l):=by
 have hk:=tell_keeps (l:=l) (end_keeps 1000 fu) h0 h1 h.2 h.1
 have:=hk.b.seen;have:=hk.b.woken
 exact⟨by show (tellX fu x t l).seen.length≤1000;omega,by show (tellX fu x t l).woken.length≤1000;omega⟩
theorem wakeF_bd {x:Xs} {t:Int} {l:List Int} (h1:t<x.c.threads.length) (h:XsE 1000 x∧count2 x.c<fu) (hw:x.woken.length+1+count2 x.c≤1000):Bd (wakeF x t l):=by
 have hk:=wake_keeps (l:=l) (end_keeps 1000 fu) h1 h.2 h.1 hw
 have:=hk.b.seen;have:=hk.b.woken
 exact⟨by show (wakeX fu x t l).seen.length≤1000;omega,by show (wakeX fu x t l).woken.length≤1000;omega⟩
theorem sig_bd {p:Prog} (hp:MayP p) (kind:Int) {a m:Int} (h0:0≤a) (h1:a<p.conds.length) (hm0:0≤m) (hm1:m<p.mutexes):∀ (n:Nat) {x:Xs},Inv p (-1) noD x.c→x.seen.length≤300→x.woken.length+n≤1000→Bd (sigX kind m a n x)
 | 0,x,_,hs,hw=>⟨by show x.seen.length≤_;omega,by show x.woken.length≤_;omega⟩
 | n+1,x,h,hs,hw=>by
  unfold sigX
  split
  ·exact⟨by omega,by omega⟩
  ·rename_i hq
   have h2:=sigStep_r hp h h0 h1 hm0 hm1 hq
   have h3:=sigStep_len hp h h0 h1 hm0 hm1 hq
   split
   ·exact⟨by rw [h3.2.2.1];omega,by have:=h3.2.2.2;omega⟩
   ·exact sig_bd hp kind h0 h1 hm0 hm1 n h2.1.inv (by rw [h3.2.2.1];exact hs) (by have:=h3.2.2.2;omega)
theorem meet_bd {p:Prog} (hp:MayP p) {x:Xs} (h:Run p x) (hs:x.seen=[]∧x.woken=[]) {q:Req} (hq:ReqI p q):Bd (meetX x q):=by
 obtain e:x.p=p:=h.p
 subst e
 have hsm:Small x:=⟨by rw [hs.1];simp,by rw [hs.2];simp⟩
 have hE:=xsE_of hp h.inv hsm
 have hn:=h.inv.nthr
 have h32:=hp.threads.2
 have hB:Bd x:=⟨by rw [hs.1];simp,by rw [hs.2];simp⟩
 have hwb:∀ {c':Cor},c'.threads=x.c.threads→x.woken.length+1+count2 c'≤1000:=fun {c'} hth=>by
  have:=(xsE_mid hp h.inv hsm hth).2
  unfold fu at this
  rw [hs.2];simp;omega
 unfold meetX
 split
 ·exact endF_bd h.t.1 h.t.2 hE
 split
 ·unfold spawnX
  split
  ·exact tellF_bd h.t.1 h.t.2 (xsE_g (y:=seeX x 1 x.t (-1)) hp h.inv (by show (x.seen++[_]).length≤900;rw [hs.1];simp) (by show x.woken.length≤900;rw [hs.2];simp))
  ·rename_i h3 hlt
   have hc:=hq.spawn h3
   have hx2:=spawn_run hp h hc.1 hc.2 hlt
   exact tellF_bd hx2.1.t.1 hx2.1.t.2 (xsE_g hp hx2.1.inv (by show (x.seen++[_]).length≤900;rw [hs.1];simp) (by show (x.woken++[_]).length≤900;rw [hs.2];simp))
 split
 ·split
  ·exact hB
  ·exact hB
 split
 ·unfold joinX
  split
  ·exact endF_bd h.t.1 h.t.2 hE
  ·split
   ·exact tellF_bd h.t.1 h.t.2 hE
   ·exact hB
 split
 ·rename_i h6
  unfold mutexX
  split
  ·split
   ·exact hB
   ·exact hB
  split
  ·split
   ·have hth:=unlock_th x.c q.a x.t
    exact wakeF_bd (x:={x with c:=(unlockC x.c q.a x.t).1 }) (by show _<((unlockC x.c q.a x.t).1.threads.length:Int);rw [hth];exact unlock_lt h.inv _ _) (xsE_mid hp h.inv hsm hth) (hwb hth)
   ·exact endF_bd h.t.1 h.t.2 hE
  split
  ·split
   ·have hth:(waitC x.c q.a (at' x.p.conds q.a) x.t).1.threads=x.c.threads:=by unfold waitC;split<;>first|rfl|exact unlock_th _ _ _
    have hti:(waitC x.c q.a (at' x.p.conds q.a) x.t).2.1<(x.c.threads.length:Int):=by unfold waitC;split<;>exact unlock_lt h.inv _ _
    have:=wakeF_bd (x:={x with c:=(waitC x.c q.a (at' x.p.conds q.a) x.t).1 }) (l:=[]) (by show _<((waitC x.c q.a (at' x.p.conds q.a) x.t).1.threads.length:Int);rw [hth];exact hti) (xsE_mid hp h.inv hsm hth) (hwb hth)
    exact this
   ·exact endF_bd h.t.1 h.t.2 hE
  ·have hc:=hq.cond (by omega)
   have hm:=hp.conds.2 _ (at_in hc.1 hc.2)
   have h4:=h.inv.cnt_le (r:=4) (k:=q.a.toNat) (by simp [nRows];omega)
   have e4:rowOf x.c 4 q.a.toNat=at' x.c.waitq q.a:=rfl
   rw [e4] at h4
   exact sig_bd hp _ hc.1 hc.2 hm.1 hm.2 _ h.inv (by rw [hs.1];simp) (by rw [hs.2];simp;omega)
 split
 ·rename_i h11
  have hl:=h.inv.len
  have hc:=hq.sema h11
  unfold semaX
  split
  ·split
   ·exact hB
   ·exact hB
  ·have hth:(upC x.c q.a).1.threads=x.c.threads:=by unfold upC;split<;>(try split)<;>rfl
   have hti:(upC x.c q.a).2<(x.c.threads.length:Int):=by
    unfold upC
    split
    ·split<;>(simp only;omega)
    ·rename_i hq
     have:=h.inv.mem 5 q.a.toNat (nth (at' x.c.downq q.a) 0) (by show _∈nth x.c.downq q.a.toNat;exact nth_mem (by unfold at' at hq;omega))
     exact this.2
   exact wakeF_bd (x:={x with c:=(upC x.c q.a).1 }) (by show _<((upC x.c q.a).1.threads.length:Int);rw [hth];exact hti) (xsE_mid hp h.inv hsm hth) (hwb hth)
 split
 ·rename_i h13
  have gotb:∀ {c':Cor} {s:Int} (l:List Int),c'.threads=x.c.threads→s<(x.c.threads.length:Int)→Bd (wakeF (tellF {x with c:=c' } x.t l) s []):=fun {c' s} l hth hlt=>by
   have ht1:x.t<(({x with c:=c' } : Xs).c.threads.length:Int):=by show x.t<(c'.threads.length:Int);rw [hth];exact h.t.2
   have hsm2:=tell_small (x:={x with c:=c' }) (t:=x.t) (l:=l) h.t.1 ht1 (xsE_mid4 hp h.inv hsm hth)
   exact wakeF_bd (by rw [hsm2.2.2];show s<(c'.threads.length:Int);rw [hth];exact hlt) hsm2.1 hsm2.2.1
  unfold chanX
  by_cases k13:q.kind=13
  ·rw [if_pos k13]
   have hth:(sendC x.c q.a (at' x.p.chans q.a) x.t q.v).1.threads=x.c.threads:=by unfold sendC;split<;>(try rfl);split<;>rfl
   have hlt:(sendC x.c q.a (at' x.p.chans q.a) x.t q.v).2.1<(x.c.threads.length:Int):=by
    unfold sendC
    split
    ·rename_i hq'
     exact(h.inv.mem 7 q.a.toNat _ (by show _∈nth x.c.recvq q.a.toNat;exact nth_mem hq')).2
    ·split<;>(simp only;omega)
   have key:∀ l,Bd (wakeF {x with c:=(sendC x.c q.a (at' x.p.chans q.a) x.t q.v).1 } (sendC x.c q.a (at' x.p.chans q.a) x.t q.v).2.1 l):=fun l=>
    wakeF_bd (by show _<((sendC x.c q.a (at' x.p.chans q.a) x.t q.v).1.threads.length:Int);rw [hth];exact hlt) (xsE_mid hp h.inv hsm hth) (hwb hth)
   simp only
   split
   ·exact hB
   split
   ·exact hB
   split
   ·exact key _
   ·exact key _
  rw [if_neg k13]
  by_cases k14:q.kind=14
  ·rw [if_pos k14]
   simp only
   split
   ·exact hB
   ·exact gotb _ (recv_th _ _ _) (recv_lt h.inv _ _)
  rw [if_neg k14]
  simp only
  split
  ·exact hB
  ·refine gotb _ ?_ ?_
   ·unfold selectC
    split
    ·exact recv_th _ _ _
    ·rfl
   ·unfold selectC
    split
    ·exact recv_lt h.inv _ _
    ·show (-1:Int)<_;omega
 split
 ·exact⟨by show (x.seen++[_]).length≤_;rw [hs.1];simp,hB.2⟩
 ·exact hB
theorem stepMeet_p {p:Prog} (hp:MayP p) {c:Cor} (h:Inv p (-1) noD c) {t:Int} (h0:0≤t) (h1:t<c.threads.length) (hs:(at' c.threads t).state=0) :
  PureC Tryz.prog 200 [.agg (Xs.lv ⟨p,withT c t (vmStep p (at' c.threads t)).1,t,[],[]⟩),.agg (vmStep p (at' c.threads t)).2.lv] (.agg (stepX p c t).lv)∧(stepX p c t).seen.length≤1000∧(stepX p c t).woken.length≤1000:=by
 have hth:=h.thr t.toNat (by omega)
 unfold stepX
 have hsm:Small ⟨p,c,t,[],[]⟩:=⟨by simp,by simp⟩
 have hE:=xsE_of hp (x:=⟨p,c,t,[],[]⟩) h hsm
 rcases vmStep_i hp hth (by show (at' c.threads t).state≠9;omega) with ⟨code,c0,c1,e⟩ | ⟨hg,hq⟩
 ·have e:vmStep p (at' c.threads t)=ends code:=e
  rw [e]
  have hm:meetX ⟨p,withT c t (thrEnd code),t,[],[]⟩ ⟨1,0,code⟩=endF ⟨p,withT c t (thrEnd code),t,[],[]⟩ t code:=by unfold meetX;rw [if_pos rfl]
  have hc2:=count2_with (c:=c) (x:=thrEnd code) h0 h1
  have hlen:(withT c t (thrEnd code)).threads.length=c.threads.length:=by show (c.threads.set _ _).length=_;rw [List.length_set]
  have hst:¬ (thrEnd code).state=2:=by simp [thrEnd]
  rw [if_neg hst] at hc2
  have h2:=hE.2
  unfold fu at h2
  have h2:count2 c<40:=h2
  have hE2:XsE 1000 ⟨p,withT c t (thrEnd code),t,[],[]⟩∧count2 (withT c t (thrEnd code))<fu:=by
   unfold fu
   refine⟨⟨by show (withT c t (thrEnd code)).threads.length≤1000;rw [hlen];exact hE.1.n,withT_thr hE.1.thr (thrEnd_b code),?_,?_⟩,by omega⟩
   ·show 0+1+count2 (withT c t (thrEnd code))≤1000;omega
   ·show 0+count2 (withT c t (thrEnd code))≤1000;omega
  have hk:=end_keeps 1000 fu ⟨p,withT c t (thrEnd code),t,[],[]⟩ t code h0 (by show t<((withT c t (thrEnd code)).threads.length:Int);rw [hlen];exact h1) hE2.2 hE2.1
  show PureC _ _ [_,.agg (Req.lv ⟨1,0,code⟩)] (.agg (meetX ⟨p,withT c t (thrEnd code),t,[],[]⟩ ⟨1,0,code⟩).lv)∧(meetX ⟨p,withT c t (thrEnd code),t,[],[]⟩ ⟨1,0,code⟩).seen.length≤1000∧(meetX ⟨p,withT c t (thrEnd code),t,[],[]⟩ ⟨1,0,code⟩).woken.length≤1000
  rw [hm]
  refine⟨meet1_p h0 (by show t<((withT c t (thrEnd code)).threads.length:Int);rw [hlen];exact h1) hE2,?_,?_⟩
  ·have:=hk.b.seen;show (endX fu _ t code).seen.length≤1000;omega
  ·have:=hk.b.woken;show (endX fu _ t code).woken.length≤1000;omega
 ·have hr:=run1 h h0 h1 hs hg
  have hx:meetX ⟨p,withT c t (vmStep p (at' c.threads t)).1,t,[],[]⟩ (vmStep p (at' c.threads t)).2=meetX ⟨p,withT c t (vmStep p (nth c.threads t.toNat)).1,t,[],[]⟩ (vmStep p (nth c.threads t.toNat)).2:=rfl
  rw [hx]
  exact⟨meet_p hp hr ⟨by simp,by simp⟩ hq,meet_bd hp hr ⟨rfl,rfl⟩ hq⟩
def Z10:List LV:=[.int .i64 0,.nils,.nils,.nils,.nils,.nils,.nils,.nils,.nils,.nils]
set_option maxHeartbeats 8000000 in
theorem step_p {p:Prog} (hp:MayP p) {c:Cor} (h:Inv p (-1) noD c) {t:Int} (h0:0≤t) (h1:t<c.threads.length) (hs:(at' c.threads t).state=0) :
  PureC Tryz.prog 103 [.agg [row p.funcs,.int .i64 p.mutexes,row p.conds,row p.semas,row p.chans,row p.choices,.int .i64 p.threads],.agg [.int .i64 c.now,row c.threads,row c.owners,row c.counts,row c.bufs,row c.lockq,row c.waitq,row c.downq,row c.sendq,row c.recvq],.int .i64 t] (.tup [.agg (stepX p c t).c.lv,row (stepX p c t).seen,row (wokenOf (stepX p c t) t),.int .i64 0]):=by
 refine .of fun s v=>?_
 have hn1:=h.nthr.2
 have hn2:=hp.threads.2
 have hx:=ix_in h0 h1
 have hst:=thr_pre hp (h.thr t.toNat (by omega)) (by show (at' c.threads t).state≠9;omega)
 have hw:=with_p (x:=(vmStep p (at' c.threads t)).1) (by omega) h0 h1
 have hm:=stepMeet_p hp h h0 h1 hs
 have hr:=step_r hp h h0 h1 hs
 have hwk:=hr.woken
 have hb:=hm.2.2
 replace hm:=hm.1
 have hs':(nth c.threads t.toNat).state=0:=hs
 clear hr
 unfold wokenOf
 generalize stepX p c t=y at *
 have hat:at' c.threads t=nth c.threads t.toNat:=rfl
 rw [hat] at hw hm
 clear hat
 generalize vmStep p (nth c.threads t.toNat)=r at *
 obtain⟨th,q⟩:=r
 simp only at hst hw hm
 generalize withT c t th=c1 at *
 simp only [Xs.lv',Cor.lv,Thr.lv,Req.lv] at hst hw hm ⊢
 have hwr:Weak .nils (row ([]:List Evt)):=Weak.nilrow
 have hwi:Weak .nils (row ([]:List Int)):=Weak.nilrow
 clear hs
 generalize hW:(y.woken.filter fun k=>decide (k≠t∧(at' y.c.threads k).state=0))=W at *
 simp only [hs'] at hst
 have q1:¬ t<0:=by omega
 have q2:¬ (c.threads.length:Int)≤t:=by omega
 refine ac0 Tryz.func103 Tryz.ntmps103 ?_
 have hrs:Tryz.f103.results = #[.cell 6 29,.tmp 7,.tmp 8,.tmp 9]:=rfl
 apply aWs_key (P:=Tryz.prog) (r:=none) (N:=87) (own:=false) (id:=0) (fun t' s' v'=>v <+: v'∧(∃ a3 a4,s'=s++[.cells [row p.funcs,.int .i64 p.mutexes,row p.conds,row p.semas,row p.chans,row p.choices,.int .i64 p.threads],.cells [.int .i64 c.now,row c.threads,row c.owners,row c.counts,row c.bufs,row c.lockq,row c.waitq,row c.downq,row c.sendq,row c.recvq],.cells Z10,a3,a4,.cells y.lv])∧t' 2 = .int .i64 t∧t' 6 = .ptr (s.length+2) 0∧t' 12 = .ptr (s.length+5) 0∧t' 13 = .nils∧t' 14 = .int .i64 0)
 ·intro key
  repeat' (first|(with_reducible first|refine uk ?_|refine wk ?_ ?_<;>intro _|(refine dr P103 mixed ?_ ?_ ?_;kernel_rfl;kernel_rfl)|refine And.intro ?_ ?_|refine callC hst (fun v1 hv1=>?_)|refine callE hw ?_|refine callWC hm (by simp [hwr,hwi]) (fun v2 hv2=>?_))|simp -implicitDefEqProofs(disch:=first|assumption|omega)[*])
  all_goals exact key _ _ _ ⟨hv1.trans hv2,⟨_,_,rfl⟩,by simp [upd_apply],by simp [upd_apply],by simp [upd_apply],by simp [upd_apply],by simp [upd_apply]⟩
 rintro t0 s0 v2 ⟨hv2,⟨a3,a4,rfl⟩,e2,e6,e12,e13,e14⟩
 simp only [Xs.lv',Z10]
 refine aW_for0 (β:=LV × List Nat) false y.woken.length (fun k q=>GroE v2 q.2 ((y.woken.take k).filter fun k=>decide (k≠t∧(at' y.c.threads k).state=0)) q.1) (fun k q=>[(13,q.1),(14,.int .i64 k),(53,.any),(54,.any),(55,.any),(56,.any),(57,.any),(60,.any),(61,.any),(62,.any),(63,.any),(64,.any),(15,.any),(65,.any),(66,.any),(67,.any),(68,.any),(69,.any),(70,.any),(71,.any),(72,.any),(73,.any),(74,.any),(75,.any),(76,.any),(77,.any),(78,.any),(79,.any),(80,.any),(81,.any),(58,.any),(59,.any)]) (fun _ q=>q.2) ⟨(.nils,v2),GroE.nil _,by (refine Fits.of ?_ (Off.refl _ _);simp [upd_apply,upds_cons, *]),rfl⟩ ?_
 rintro k ⟨xk,v3⟩ hk hG
 simp only at hG
 by_cases hlt:k<y.woken.length
 ·have hin:=hwk _ (nth_mem hlt)
  have hxk:=ix_in (l:=y.woken) (i:=(k:Int)) (by omega) (by omega)
  have hxt:=ix_in (l:=y.c.threads) hin.1 hin.2
  have hgc:=hG.gro.cells
  have hft:=filt_take (f:=fun k=>decide (k≠t∧(at' y.c.threads k).state=0)) hlt
  by_cases hne:nth y.woken k=t
  ·have hf:(decide (nth y.woken k≠t∧(at' y.c.threads (nth y.woken k)).state=0))=false:=by simp [hne]
   rw [hf,if_neg (by simp)] at hft
   rw [← hft] at hG
   clear hf hft hst hw hm
   repeat' (first|(with_reducible first|refine uk ?_|refine wk ?_ ?_<;>intro _|(refine dr P103 mixed ?_ ?_ ?_;kernel_rfl;kernel_rfl)|refine And.intro ?_ ?_)|simp -implicitDefEqProofs(disch:=first|assumption|omega)[*])
   all_goals exact⟨hlt,(xk,v3),hG,fz,by simp,rfl⟩
  ·by_cases hz:(nth y.c.threads (nth y.woken k).toNat).state=0
   ·have hf:(decide (nth y.woken k≠t∧(at' y.c.threads (nth y.woken k)).state=0))=true:=by simp [hne,at',hz]
    rw [hf,if_pos rfl] at hft
    obtain⟨x2,v4,g2,_,gb⟩:=hG.push (P:=Tryz.prog) (t:=23) (t2:=23) (sz:=1) (by_:=8) (by kernel_rfl) rfl (by omega) (nth y.woken k) (by have:=List.length_filter_le (fun k=>decide (k≠t∧(at' y.c.threads k).state=0)) (y.woken.take k);simp at this ⊢;omega)
    rw [← hft] at g2
    simp only [enc_int] at gb
    clear hf hft hst hw hm
    repeat' (first|(with_reducible first|refine uk ?_|refine wk ?_ ?_<;>intro _|(refine dr P103 mixed ?_ ?_ ?_;kernel_rfl;kernel_rfl)|refine And.intro ?_ ?_)|simp -implicitDefEqProofs(disch:=first|assumption|omega)[*])
    all_goals exact⟨hlt,(x2,v4),g2,fz,by simp,rfl⟩
   ·have hf:(decide (nth y.woken k≠t∧(at' y.c.threads (nth y.woken k)).state=0))=false:=by simp [hne,at',hz]
    rw [hf,if_neg (by simp)] at hft
    rw [← hft] at hG
    clear hf hft hst hw hm
    repeat' (first|(with_reducible first|refine uk ?_|refine wk ?_ ?_<;>intro _|(refine dr P103 mixed ?_ ?_ ?_;kernel_rfl;kernel_rfl)|refine And.intro ?_ ?_)|simp -implicitDefEqProofs(disch:=first|assumption|omega)[*])
    all_goals exact⟨hlt,(xk,v3),hG,fz,by simp,rfl⟩
 ·have hke:k=y.woken.length:=by omega
  subst hke
  rw [List.take_of_length_le (Nat.le_refl _),hW] at hG
  clear hst hw hm hW
  have hgw:=hG.gro.weak
  have hgu:=hG.gro.under
  have hgc:=hG.gro.cells
  have hpre:=hv2.trans hG.1
  repeat' (first|(with_reducible first|refine uk ?_|refine wk ?_ ?_<;>intro _|(refine dr P103 mixed ?_ ?_ ?_;kernel_rfl;kernel_rfl)|refine And.intro ?_ ?_)|simp -implicitDefEqProofs(disch:=first|assumption|omega)[*])
  all_goals refine Ends.at (by simp [hgu]) ?_ hpre
  all_goals exact Weak.tup ⟨Weak.refl _,Weak.refl _,hgw,Weak.refl _,trivial⟩
def inK (c:Cor) (s:Int) (k:Nat):List Int:=((List.range k).filter fun (t:Nat)=>decide ((nth c.threads t).state=s)).map fun (t:Nat)=>(t:Int)
theorem inK_succ (c:Cor) (s:Int) (k:Nat):inK c s (k+1)=if (nth c.threads k).state=s then inK c s k++[(k:Int)] else inK c s k:=by
 unfold inK
 rw [List.range_succ,List.filter_append,List.map_append]
 by_cases h:(nth c.threads k).state=s
 ·rw [if_pos h];simp [h]
 ·rw [if_neg h];simp [h]
theorem inK_len (c:Cor) (s:Int) (k:Nat):(inK c s k).length≤k:=by
 unfold inK
 rw [List.length_map]
 have:=List.length_filter_le (fun (t:Nat)=>decide ((nth c.threads t).state=s)) (List.range k)
 simpa using this
theorem inC_mem {c:Cor} {s t:Int} (h:t∈inC c s):0≤t∧t<c.threads.length∧(at' c.threads t).state=s:=by
 unfold inC at h
 rw [List.mem_map] at h
 obtain⟨n,h1,rfl⟩:=h
 rw [List.mem_filter] at h1
 simp at h1
 exact⟨by omega,by omega,h1.2⟩
theorem in_p {c:Cor} (hn:c.threads.length≤1000) (st:Int):PureC Tryz.prog 100 [.agg [.int .i64 c.now,row c.threads,row c.owners,row c.counts,row c.bufs,row c.lockq,row c.waitq,row c.downq,row c.sendq,row c.recvq],.int .i64 st] (row (inC c st)):=by
 refine Fresh.pure (Fresh.of fun s v=>?_)
 refine ac0 Tryz.func100 Tryz.ntmps100 ?_
 have hrs:Tryz.f100.results = #[.tmp 4]:=rfl
 repeat' (first|(with_reducible first|refine uk ?_|refine wk ?_ ?_<;>intro _)|simp -implicitDefEqProofs(disch:=first|assumption|omega)[*])
 refine aW_for (β:=LV × List Nat) false c.threads.length (fun k q=>GroE v q.2 (inK c st k) q.1) (fun k q=>[(5,q.1),(6,.int .i64 k),(7,.any),(8,.any),(9,.any),(10,.any),(11,.any),(14,.any),(15,.any),(16,.any),(17,.any),(18,.any),(19,.any),(20,.any),(21,.any),(22,.any),(23,.any),(24,.any),(25,.any),(12,.any),(13,.any)]) (fun _ _=>s++[.cells [.int .i64 c.now,row c.threads,row c.owners,row c.counts,row c.bufs,row c.lockq,row c.waitq,row c.downq,row c.sendq,row c.recvq]]) (fun _ q=>q.2) ?_ ?_
 ·exact⟨(.nils,v),GroE.nil _,fz0,rfl,rfl⟩
 rintro k ⟨x,v1⟩ hk hG
 simp only at hG
 have hlen:=inK_len c st k
 have hgc:=hG.gro.cells
 have hsucc:=inK_succ c st k
 by_cases hlt:k<c.threads.length
 ·have hx:=ix_in (l:=c.threads) (i:=(k:Int)) (by omega) (by omega)
  by_cases hs:(nth c.threads k).state=st
  ·obtain⟨x2,v2,g2,_,gb⟩:=hG.push (P:=Tryz.prog) (t:=23) (t2:=23) (sz:=1) (by_:=8) (by kernel_rfl) rfl (by omega) (k:Int) (by omega)
   simp only [enc_int] at gb
   rw [if_pos hs] at hsucc
   rw [← hsucc] at g2
   clear hsucc
   repeat' (first|(with_reducible first|refine uk ?_|refine wk ?_ ?_<;>intro _)|simp -implicitDefEqProofs(disch:=first|assumption|omega)[*])
   exact⟨hlt,(x2,v2),g2,fz,by simp,rfl⟩
  ·rw [if_neg hs] at hsucc
   rw [← hsucc] at hG
   clear hsucc
   repeat' (first|(with_reducible first|refine uk ?_|refine wk ?_ ?_<;>intro _)|simp -implicitDefEqProofs(disch:=first|assumption|omega)[*])
   exact⟨hlt,(x,v1),hG,fz,by simp,rfl⟩
 ·have hke:k=c.threads.length:=by omega
  subst hke
  have hg:GroE v v1 (inC c st) x:=hG
  clear hsucc hG
  repeat' (first|(with_reducible first|refine uk ?_|refine wk ?_ ?_<;>intro _)|simp -implicitDefEqProofs(disch:=first|assumption|omega)[*])
  exact hg.gro
theorem next_p {c:Cor} (hn:c.threads.length≤1000):PureC Tryz.prog 101 [.agg [.int .i64 c.now,row c.threads,row c.owners,row c.counts,row c.bufs,row c.lockq,row c.waitq,row c.downq,row c.sendq,row c.recvq]] (.tup [.int .i64 (nextC c).1,.bool (nextC c).2]):=by
 refine .of fun s v=>?_
 have hi:=in_p (c:=c) hn 1
 have hm:∀ t∈inC c 1,0≤t∧t<c.threads.length:=fun t ht=>⟨(inC_mem ht).1,(inC_mem ht).2.1⟩
 have hlb:(inC c 1).length≤1000:=Nat.le_trans (inK_len c 1 c.threads.length) hn
 unfold nextC
 generalize inC c 1=l at *
 refine ac0 Tryz.func101 Tryz.ntmps101 ?_
 have hrs:Tryz.f101.results = #[.tmp 2,.tmp 3]:=rfl
 repeat' (first|(with_reducible first|refine uk ?_|refine wk ?_ ?_<;>intro _|(refine dr P101 mixed ?_ ?_ ?_;kernel_rfl;kernel_rfl)|refine callC hi (fun v1 hv1=>?_))|simp -implicitDefEqProofs(disch:=first|assumption|omega)[*])
 refine aW_for (β:=Int) false l.length (fun k a=>(l.take k).foldl (nextStep c) (0,0)=(a,k)) (fun k a=>[(5,.int .i64 a),(6,.int .i64 k),(10,.any),(11,.any),(12,.any),(13,.any),(16,.any),(17,.any),(18,.any),(19,.any),(20,.any),(21,.any),(22,.any),(23,.any),(24,.any),(7,.any),(25,.any),(26,.any),(27,.any),(28,.any),(29,.any),(30,.any),(31,.any),(32,.any),(14,.any),(15,.any)]) (fun _ _=>s++[.cells [.int .i64 c.now,row c.threads,row c.owners,row c.counts,row c.bufs,row c.lockq,row c.waitq,row c.downq,row c.sendq,row c.recvq]]) (fun _ _=>v1) ?_ ?_
 ·exact⟨0,rfl,fz0,rfl,rfl⟩
 rintro k a hk hI
 replace hI:(l.take k).foldl (nextStep c) (0,0)=(a,k):=hI
 by_cases hlt:k<l.length
 ·have hin:=hm _ (nth_mem hlt)
  have hx:=ix_in (l:=l) (i:=(k:Int)) (by omega) (by omega)
  have hxt:=ix_in (l:=c.threads) hin.1 hin.2
  have hstep:(l.take (k+1)).foldl (nextStep c) (0,0)=(if k=0∨(nth c.threads (nth l k).toNat).on<a then (nth c.threads (nth l k).toNat).on else a,k+1):=by
   rw [take_succ_nth hlt,List.foldl_append,hI];rfl
  clear hI
  by_cases h0:k=0
  ·rw [if_pos (.inl h0)] at hstep
   subst h0
   repeat' (first|(with_reducible first|refine uk ?_|refine wk ?_ ?_<;>intro _|(refine dr P101 mixed ?_ ?_ ?_;kernel_rfl;kernel_rfl))|simp -implicitDefEqProofs(disch:=first|assumption|omega)[*])
   exact⟨hlt,_,hstep,fz,by simp,rfl⟩
  ·by_cases h1:(nth c.threads (nth l k).toNat).on<a
   ·rw [if_pos (.inr h1)] at hstep
    repeat' (first|(with_reducible first|refine uk ?_|refine wk ?_ ?_<;>intro _|(refine dr P101 mixed ?_ ?_ ?_;kernel_rfl;kernel_rfl))|simp -implicitDefEqProofs(disch:=first|assumption|omega)[*])
    exact⟨hlt,_,hstep,fz,by simp,rfl⟩
   ·rw [if_neg (by omega)] at hstep
    repeat' (first|(with_reducible first|refine uk ?_|refine wk ?_ ?_<;>intro _|(refine dr P101 mixed ?_ ?_ ?_;kernel_rfl;kernel_rfl))|simp -implicitDefEqProofs(disch:=first|assumption|omega)[*])
    exact⟨hlt,_,hstep,fz,by simp,rfl⟩
 ·have hke:k=l.length:=by omega
  subst hke
  rw [List.take_of_length_le (Nat.le_refl _)] at hI
  rw [hI]
  repeat' (first|(with_reducible first|refine uk ?_|refine wk ?_ ?_<;>intro _|(refine dr P101 mixed ?_ ?_ ?_;kernel_rfl;kernel_rfl))|simp -implicitDefEqProofs(disch:=first|assumption|omega)[*])
  all_goals exact Ends.eqat (by simp) (by simp) hv1
end Go.Hb
end
