/-
  A layer for reasoning about the program's calls, and contracts of its functions. CONDITIONS: none; each theorem bears its own.
-/
import Derived.Test.YtieoaonaijbijaaGreatG22
set_option linter.unusedVariables false
set_option linter.unusedSimpArgs false
section
namespace Go.Hb
open Go Go.Proofs Go.RowKit
set_option maxRecDepth 100000
set_option maxHeartbeats 800000
attribute [-simp] aC aL xq yp zE aIf yr zR aLen zt ya zQ zP lBr aq yP aev zk zw zF zI LV.cells LV.cellsOk getElem?_pos getElem?_neg
theorem zho {p:Prog}(hp:MayP p){x:Xs}(h:Run p x)(hs:Small x){a:Int}(h0:0≤a)(h1:a<p.mutexes):zG Tryz.prog 250 [.agg x.lv,.int .i64 6,.int .i64 a] (.agg (vf x 6 a).lv):=by
 refine .of fun s v=>?_
 have hl:=h.inv.len
 have hb:=h.inv.corB hp
 have hn1:=h.inv.nthr.2
 have hn2:=hp.threads.2
 unfold vf
 rw[if_pos rfl]
 have hd:=zil (t:=x.t) hb h0 (by rw[hl.owners];omega) (by rw[hl.lockq];omega)
 have hth:(vG x.c a x.t).1.threads=x.c.threads:=by unfold vG;split<;>rfl
 generalize vG x.c a x.t=r at *
 obtain⟨c1,is⟩:=r
 simp only at hth
 simp only[Cor.lv] at hd
 cases is
 ·simp only[Bool.false_eq_true,if_false]
  have hr:=Qn (x:={x with c:=c1 }) (t:=x.t) (st:=3) (on:=a) (by show c1.threads.length≤_;rw[hth];omega) h.t.1 (by show x.t<(c1.threads.length:Int);rw[hth];exact h.t.2)
  generalize yj {x with c:=c1 } x.t 3 a=z at *
  simp only[Xs.lv'] at hr ⊢
  clear hth
  refine ac0 Tryz.func250 Tryz.ntmps250 ?_
  have hrs:Tryz.f250.results = #[.cell 6 226]:=rfl
  repeat' (first|(with_reducible first|refine uk ?_|refine wk ?_ ?_<;>intro _|(refine dr P250 mixed ?_ ?_ ?_;kernel_rfl;kernel_rfl)|refine andC ?_ ?_|refine zg hd (fun v1 hv1=>?_)|refine zg hr (fun v2 hv2=>?_))|simp -implicitDefEqProofs(disch:=first|assumption|omega)[*])
  all_goals exact Ends.eqat rfl (by simp) (hv1.trans hv2)
 ·simp only[if_true,Xs.lv']
  refine ac0 Tryz.func250 Tryz.ntmps250 ?_
  have hrs:Tryz.f250.results = #[.cell 6 226]:=rfl
  repeat' (first|(with_reducible first|refine uk ?_|refine wk ?_ ?_<;>intro _|(refine dr P250 mixed ?_ ?_ ?_;kernel_rfl;kernel_rfl)|refine andC ?_ ?_|refine zg hd (fun v1 hv1=>?_))|simp -implicitDefEqProofs(disch:=first|assumption|omega)[*])
  all_goals exact Ends.eqat rfl (by simp) hv1
theorem QJ (c:Cor)(m t:Int):(zf c m t).1.threads=c.threads:=by unfold zf;split<;>(try split)<;>rfl
theorem QK {p:Prog}{c:Cor}(h:Inv p (-1) noD c)(m t:Int):(zf c m t).2.1<(c.threads.length:Int):=by
 have hn:=h.nthr.1
 unfold zf
 split
 ·show (-1:Int)<_;omega
 ·split
  ·rename_i hq
   have:=h.mem 3 m.toNat (nth (at' c.lockq m) 0) (by show _∈nth c.lockq m.toNat;exact zm hq)
   exact this.2
  ·show (-1:Int)<_;omega
theorem zgM {p:Prog}(hp:MayP p){x:Xs}(h:Run p x)(hs:Small x){a:Int}(h0:0≤a)(h1:a<p.mutexes):zG Tryz.prog 250 [.agg x.lv,.int .i64 7,.int .i64 a] (.agg (vf x 7 a).lv):=by
 refine .of fun s v=>?_
 have hl:=h.inv.len
 have hb:=h.inv.corB hp
 have hn1:=h.inv.nthr.2
 have hn2:=hp.threads.2
 unfold vf
 rw[if_neg (by omega),if_pos rfl]
 have hd:=zgQ (t:=x.t) hb h0 (by rw[hl.owners];omega) (by rw[hl.lockq];omega)
 have hth:=QJ x.c a x.t
 have hti:=QK h.inv a x.t
 have hE:=xK hp h.inv hs hth
 have hE0:=Yj hp h.inv hs
 have hs2:=hs.2
 have hec:(zf x.c a x.t).2.2=0∨(zf x.c a x.t).2.2=10:=by unfold zf;split<;>(try split)<;>simp
 generalize zf x.c a x.t=r at *
 obtain⟨c1,t,e⟩:=r
 simp only at hth hti hE hec
 simp only[Cor.lv] at hd
 by_cases he:e=0
 ·subst he
  rw[if_pos rfl]
  have hwk:=wY (x:={x with c:=c1 }) (t:=t) (l:=[]) (by show t<(c1.threads.length:Int);rw[hth];exact hti) hE (by show x.woken.length+1+zz c1≤1000;have:=hE.2;unfold fu at this;omega) (by simp)
  have hw:Weak .nils (row ([]:List Int)):=Weak.nilrow
  generalize yO {x with c:=c1 } t []=z at *
  simp only[Xs.lv'] at hwk ⊢
  clear hth hE hE0
  refine ac0 Tryz.func250 Tryz.ntmps250 ?_
  have hrs:Tryz.f250.results = #[.cell 6 226]:=rfl
  repeat' (first|(with_reducible first|refine uk ?_|refine wk ?_ ?_<;>intro _|(refine dr P250 mixed ?_ ?_ ?_;kernel_rfl;kernel_rfl)|refine andC ?_ ?_|refine zg hd (fun v1 hv1=>?_)|refine wg hwk (by simp[hw]) (fun v2 hv2=>?_))|simp -implicitDefEqProofs(disch:=first|assumption|omega)[*])
  all_goals exact Ends.eqat rfl (by simp) (hv1.trans hv2)
 ·have he:e=10:=hec.resolve_left he
  subst he
  rw[if_neg (by omega)]
  have hen:=YI (code:=4) h.t.1 h.t.2 hE0
  generalize endF x x.t 4=z at *
  simp only[Xs.lv'] at hen ⊢
  clear hth hE hE0
  refine ac0 Tryz.func250 Tryz.ntmps250 ?_
  have hrs:Tryz.f250.results = #[.cell 6 226]:=rfl
  repeat' (first|(with_reducible first|refine uk ?_|refine wk ?_ ?_<;>intro _|(refine dr P250 mixed ?_ ?_ ?_;kernel_rfl;kernel_rfl)|refine andC ?_ ?_|refine zg hd (fun v1 hv1=>?_)|refine zg hen (fun v2 hv2=>?_))|simp -implicitDefEqProofs(disch:=first|assumption|omega)[*])
  all_goals exact Ends.eqat rfl (by simp) (hv1.trans hv2)
theorem zhJ {p:Prog}(hp:MayP p){x:Xs}(h:Run p x)(hs:Small x){a:Int}(h0:0≤a)(h1:a<p.conds.length):zG Tryz.prog 250 [.agg x.lv,.int .i64 8,.int .i64 a] (.agg (vf x 8 a).lv):=by
 refine .of fun s v=>?_
 have hl:=h.inv.len
 have hb:=h.inv.corB hp
 have hn1:=h.inv.nthr.2
 have hn2:=hp.threads.2
 obtain e:x.p=p:=h.p
 subst e
 have hm:=hp.conds.2 _ (uh h0 h1)
 have hxm:=zB h0 h1
 unfold vf
 rw[if_neg (by omega),if_neg (by omega),if_pos rfl]
 unfold at' at hm ⊢
 have hd:=zkP (t:=x.t) hb hm.1 (by rw[hl.owners];omega) (by rw[hl.lockq];omega) h0 (by rw[hl.waitq];exact h1)
 have hth:(xN x.c a (nth x.p.conds a.toNat) x.t).1.threads=x.c.threads:=by unfold xN;split<;>first|rfl|exact QJ _ _ _
 have hti:(xN x.c a (nth x.p.conds a.toNat) x.t).2.1<(x.c.threads.length:Int):=by unfold xN;split<;>exact QK h.inv _ _
 have hE:=xK hp h.inv hs hth
 have hE0:=Yj hp h.inv hs
 have hs2:=hs.2
 have hec:(xN x.c a (nth x.p.conds a.toNat) x.t).2.2=0∨(xN x.c a (nth x.p.conds a.toNat) x.t).2.2=10:=by
  have:∀ m,(zf x.c m x.t).2.2=0∨(zf x.c m x.t).2.2=10:=fun m=>by unfold zf;split<;>(try split)<;>simp
  unfold xN;split<;>exact this _
 generalize xN x.c a (nth x.p.conds a.toNat) x.t=r at *
 obtain⟨c1,t,e⟩:=r
 simp only at hth hti hE hec
 simp only[Cor.lv] at hd
 by_cases he:e=0
 ·subst he
  rw[if_pos rfl]
  have hwk:=wY (x:={x with c:=c1 }) (t:=t) (l:=[]) (by show t<(c1.threads.length:Int);rw[hth];exact hti) hE (by show x.woken.length+1+zz c1≤1000;have:=hE.2;unfold fu at this;omega) (by simp)
  have hw:Weak .nils (row ([]:List Int)):=Weak.nilrow
  have hy:(yO {x with c:=c1 } t []).t=x.t∧(yO {x with c:=c1 } t []).c.threads.length=x.c.threads.length:=by
   by_cases ht:t<0
   ·rw[wZ _ ht];exact⟨rfl,by rw[← hth]⟩
   ·rw[vB _ (by omega) (by show t<(c1.threads.length:Int);rw[hth];exact hti)]
    refine⟨rfl,?_⟩
    show (c1.threads.set _ _).length=_
    rw[List.length_set,hth]
  generalize yO {x with c:=c1 } t []=y at *
  have hr:=Qn (x:=y) (t:=x.t) (st:=4) (on:=a) (by rw[hy.2];omega) h.t.1 (by rw[hy.2];exact h.t.2)
  generalize yj y x.t 4 a=z at *
  simp only[Xs.lv'] at hwk hr ⊢
  clear hth hE hE0 hy
  refine ac0 Tryz.func250 Tryz.ntmps250 ?_
  have hrs:Tryz.f250.results = #[.cell 6 226]:=rfl
  repeat' (first|(with_reducible first|refine uk ?_|refine wk ?_ ?_<;>intro _|(refine dr P250 mixed ?_ ?_ ?_;kernel_rfl;kernel_rfl)|refine andC ?_ ?_|refine zg hd (fun v1 hv1=>?_)|refine wg hwk (by simp[hw]) (fun v2 hv2=>?_)|refine zg hr (fun v3 hv3=>?_))|simp -implicitDefEqProofs(disch:=first|assumption|omega)[*])
  all_goals exact Ends.eqat rfl (by simp) (hv1.trans (hv2.trans hv3))
 ·have he:e=10:=hec.resolve_left he
  subst he
  rw[if_neg (by omega)]
  have hen:=YI (code:=4) h.t.1 h.t.2 hE0
  generalize endF x x.t 4=z at *
  simp only[Xs.lv'] at hen ⊢
  clear hth hE hE0
  refine ac0 Tryz.func250 Tryz.ntmps250 ?_
  have hrs:Tryz.f250.results = #[.cell 6 226]:=rfl
  repeat' (first|(with_reducible first|refine uk ?_|refine wk ?_ ?_<;>intro _|(refine dr P250 mixed ?_ ?_ ?_;kernel_rfl;kernel_rfl)|refine andC ?_ ?_|refine zg hd (fun v1 hv1=>?_)|refine zg hen (fun v2 hv2=>?_))|simp -implicitDefEqProofs(disch:=first|assumption|omega)[*])
  all_goals exact Ends.eqat rfl (by simp) (hv1.trans hv2)
structure SigI (p:Prog)(kind m a:Int)(x y:Xs):Prop where
 inv:Inv p (-1) noD y.c
 p:y.p=x.p
 seen:y.seen=x.seen
 woken:y.woken.length+(at' y.c.waitq a).length≤x.woken.length+(at' x.c.waitq a).length
 sig:sigX kind m a (at' y.c.waitq a).length y=sigX kind m a (at' x.c.waitq a).length x
theorem Zb {p:Prog}(hp:MayP p){y:Xs}(h:Inv p (-1) noD y.c){a m:Int}(h0:0≤a)(h1:a<p.conds.length)(hm0:0≤m)(hm1:m<p.mutexes)(hq:(at' y.c.waitq a).length≠0) :
  (at' (yL m a y).c.waitq a).length=(at' y.c.waitq a).length-1∧(yL m a y).p=y.p∧(yL m a y).seen=y.seen∧(yL m a y).woken.length≤y.woken.length+1:=by
 have hr:=QD hp h h0 h1 hm0 hm1 hq
 have hlt:a.toNat<y.c.waitq.length:=by rw[h.len.waitq];omega
 refine⟨?_,hr.1.p,?_⟩
 ·unfold at'
  rw[hr.2,wC hlt,List.length_drop];rfl
 ·have hin:=h.mem 4 a.toNat (nth (at' y.c.waitq a) 0) (by show _∈nth y.c.waitq a.toNat;exact zm (by unfold at' at hq;omega))
  unfold yL yk
  rw[if_neg hq]
  simp only
  unfold vG
  split
  ·simp only[Bool.false_eq_true,if_false]
   exact⟨rfl,by show y.woken.length≤_;omega⟩
  ·simp only[if_true]
   rw[vB {y with c:={y.c with waitq:=y.c.waitq.set a.toNat ((at' y.c.waitq a).drop 1),owners:=y.c.owners.set m.toNat (nth (at' y.c.waitq a) 0) } } hin.1 hin.2]
   refine⟨rfl,?_⟩
   show (y.woken++[_]).length≤_
   simp
theorem zhB {p:Prog}(hp:MayP p){x:Xs}(h:Run p x)(hs:Small x){kind a:Int}(hk:kind=9∨kind=10)(h0:0≤a)(h1:a<p.conds.length):zG Tryz.prog 250 [.agg x.lv,.int .i64 kind,.int .i64 a] (.agg (vf x kind a).lv):=by
 refine .of fun s v=>?_
 have hn1:=h.inv.nthr.2
 have hn2:=hp.threads.2
 obtain e:x.p=p:=h.p
 subst e
 have hm:=hp.conds.2 _ (uh h0 h1)
 have hxm:=zB h0 h1
 have k6:¬ kind=6:=by omega
 have k7:¬ kind=7:=by omega
 have k8:¬ kind=8:=by omega
 unfold vf
 rw[if_neg k6,if_neg k7,if_neg k8]
 have hw0:(at' x.c.waitq a).length≤32:=by
  have h4:=h.inv.cnt_le (r:=4) (k:=a.toNat) (by simp[yv];omega)
  have e4:zJ x.c 4 a.toNat=at' x.c.waitq a:=rfl
  rw[e4] at h4
  have:=hp.threads.2
  omega
 have hs1:=hs.1
 have hs2:=hs.2
 have hI0:SigI x.p kind (at' x.p.conds a) a x x:=⟨h.inv,rfl,rfl,Nat.le_refl _,rfl⟩
 have hm':at' x.p.conds a=nth x.p.conds a.toNat:=rfl
 generalize hfin:sigX kind (at' x.p.conds a) a (at' x.c.waitq a).length x=fin at *
 rw[hm'] at hm hI0 hfin
 generalize hmm:nth x.p.conds a.toNat=m at *
 simp only[Xs.lv']
 refine ac0 Tryz.func250 Tryz.ntmps250 ?_
 have hrs:Tryz.f250.results = #[.cell 6 226]:=rfl
 repeat' (first|(with_reducible first|refine uk ?_|refine wk ?_ ?_<;>intro _|(refine dr P250 mixed ?_ ?_ ?_;kernel_rfl;kernel_rfl))|simp -implicitDefEqProofs(disch:=first|assumption|omega)[*])
 refine zbz (β:=Xs × List AObj × List Nat) false (fun q=>SigI x.p kind m a x q.1∧v <+: q.2.2) (fun q=>(at' q.1.c.waitq a).length) (fun q=>[(97,.any),(98,.any),(99,.any),(100,.any),(101,.any),(102,.any),(103,.any),(104,.any),(106,.any),(107,.any),(108,.any),(109,.any),(110,.any),(105,.any),(111,.any),(112,.any),(113,.any),(16,.any),(17,.any),(18,.any),(114,.any),(115,.any),(116,.any),(117,.any),(118,.any),(119,.any),(120,.any),(121,.any),(122,.any),(123,.any),(124,.any),(125,.any)]) (fun q=>s++(.cells q.1.lv :: .cells Z20 :: q.2.1)) (fun q=>q.2.2) ?_ ?_
 ·exact⟨(x,[],v),⟨hI0,List.prefix_refl _⟩,fz0,rfl,rfl⟩
 rintro⟨y,J,v1⟩ ⟨hI,hv1⟩
 simp only at hI hv1
 have hl:=hI.inv.len
 have hxw:=zB (l:=y.c.waitq) (i:=a) h0 (by rw[hl.waitq];exact h1)
 have hwq:=hI.woken
 have hny:=hI.inv.nthr.2
 have hb:=hI.inv.corB hp
 have hsig:=hI.sig
 have hseen:=hI.seen
 by_cases hq:(at' y.c.waitq a).length=0
 ·rw[hq] at hsig
  have hye:y=fin:=hsig.trans hfin
  subst hye
  clear hI hI0 hfin hsig hseen
  unfold at' at hq
  have hq2:¬ 0<(nth y.c.waitq a.toNat).length:=by omega
  clear hwq hw0 hq
  simp only[Xs.lv',Z20]
  repeat' (first|(with_reducible first|refine uk ?_|refine wk ?_ ?_<;>intro _|(refine dr P250 mixed ?_ ?_ ?_;kernel_rfl;kernel_rfl))|simp -implicitDefEqProofs(disch:=first|assumption|omega)[*])
  all_goals exact Ends.eqat rfl (by simp) hv1
 ·have hst:=Zb hp hI.inv h0 h1 hm.1 hm.2 hq
  have hsr:=(QD hp hI.inv h0 h1 hm.1 hm.2 hq).1
  have hI2:kind≠9→SigI x.p kind m a x (yL m a y):=fun hk9=>by
   refine⟨hsr.inv,hsr.p.trans hI.p,hst.2.2.1.trans hseen,by rw[hst.1];have:=hst.2.2.2;omega,?_⟩
   rw[hst.1,← hsig]
   obtain⟨j,hj⟩:∃ j,(at' y.c.waitq a).length=j+1:=⟨(at' y.c.waitq a).length-1,by omega⟩
   rw[hj]
   show _=(if (at' y.c.waitq a).length=0 then y else if kind=9 then yL m a y else sigX kind m a j (yL m a y))
   rw[if_neg hq,if_neg hk9]
   rfl
  have hI3:kind=9→yL m a y=fin:=fun hk9=>by
   rw[← hfin,← hsig]
   obtain⟨j,hj⟩:∃ j,(at' y.c.waitq a).length=j+1:=⟨(at' y.c.waitq a).length-1,by omega⟩
   rw[hj]
   show _=(if (at' y.c.waitq a).length=0 then y else if kind=9 then yL m a y else sigX kind m a j (yL m a y))
   rw[if_neg hq,if_pos hk9]
  have hd:=zgF hb hm.1 (by rw[hl.owners];omega) (by rw[hl.lockq];omega) h0 (by rw[hl.waitq];exact h1)
  have hth:(yk y.c a m).1.threads=y.c.threads:=by unfold yk vG;split<;>(try rfl);split<;>rfl
  have hti:0≤(yk y.c a m).2.1∧(yk y.c a m).2.1<(y.c.threads.length:Int):=by
   unfold yk
   rw[if_neg hq]
   exact hI.inv.mem 4 a.toNat (nth (at' y.c.waitq a) 0) (by show _∈nth y.c.waitq a.toNat;exact zm (by unfold at' at hq;omega))
  have hse:y.seen.length≤300:=by rw[hseen];exact hs1
  have hE:XsE 1000 {y with c:=(yk y.c a m).1 }∧zz (yk y.c a m).1<fu:=by
   have h1:=xK hp (x:={y with woken:=[] }) hI.inv ⟨hse,by simp⟩ hth
   have h2:=h1.2
   unfold fu at h2
   exact⟨⟨h1.1.n,h1.1.thr,h1.1.seen,by show y.woken.length+zz (yk y.c a m).1≤1000;omega⟩,h1.2⟩
  have hlen2:(at' (yL m a y).c.waitq a).length<(at' y.c.waitq a).length:=by rw[hst.1];omega
  have hq2:0<(nth y.c.waitq a.toNat).length:=by unfold at' at hq;omega
  have hstep:yL m a y=if (yk y.c a m).2.2=true then yO {y with c:=(yk y.c a m).1 } (yk y.c a m).2.1 [] else yj {y with c:=(yk y.c a m).1 } (yk y.c a m).2.1 3 m:=rfl
  have hwo:y.woken.length≤332:=by omega
  clear hI0 hfin hsig hsr hst hI hwq hseen hw0 hq
  generalize yk y.c a m=r at *
  obtain⟨c1,t,is⟩:=r
  simp only at hth hti hE hstep
  simp only[Cor.lv] at hd
  have hw:Weak .nils (row ([]:List Int)):=Weak.nilrow
  have hwk:=wY (x:={y with c:=c1 }) (t:=t) (l:=[]) (by show t<(c1.threads.length:Int);rw[hth];exact hti.2) hE (by show y.woken.length+1+zz c1≤1000;have:=hE.2;unfold fu at this;omega) (by simp)
  have hr:=Qn (x:={y with c:=c1 }) (t:=t) (st:=3) (on:=m) (by show c1.threads.length≤_;rw[hth];omega) hti.1 (by show t<(c1.threads.length:Int);rw[hth];exact hti.2)
  cases is
  ·simp only[Bool.false_eq_true,if_false] at hstep
   rw[← hstep] at hr
   clear hwk hE hth hb hl hstep hxm
   generalize yL m a y=z at *
   by_cases hk9:kind=9
   ·have hz:=hI3 hk9
    subst hz
    subst hk9
    clear hI2 hI3
    simp only[Xs.lv'] at hr ⊢
    simp only[Z20]
    repeat' (first|(with_reducible first|refine uk ?_|refine wk ?_ ?_<;>intro _|(refine dr P250 mixed ?_ ?_ ?_;kernel_rfl;kernel_rfl)|refine andC ?_ ?_|refine zg hd (fun v2 hv2=>?_)|refine zg hr (fun v3 hv3=>?_))|simp -implicitDefEqProofs(disch:=first|assumption|omega)[*])
    all_goals exact Ends.eqat rfl (by simp) (hv1.trans (hv2.trans hv3))
   ·have hI2:=hI2 hk9
    clear hI3
    simp only[Xs.lv'] at hr ⊢
    repeat' (first|(with_reducible first|refine uk ?_|refine wk ?_ ?_<;>intro _|(refine dr P250 mixed ?_ ?_ ?_;kernel_rfl;kernel_rfl)|refine andC ?_ ?_|refine zg hd (fun v2 hv2=>?_)|refine zg hr (fun v3 hv3=>?_))|simp -implicitDefEqProofs(disch:=first|assumption|omega)[*])
    all_goals exact⟨(z,J++[.cells [.int .i64 c1.now,row c1.threads,row c1.owners,row c1.counts,row c1.bufs,row c1.lockq,row c1.waitq,row c1.downq,row c1.sendq,row c1.recvq]],v3),hlen2,⟨hI2,hv1.trans (hv2.trans hv3)⟩,fz,by simp,rfl⟩
  ·simp only[if_true] at hstep
   rw[← hstep] at hwk
   clear hr hE hth hb hl hstep hxm
   generalize yL m a y=z at *
   by_cases hk9:kind=9
   ·have hz:=hI3 hk9
    subst hz
    subst hk9
    clear hI2 hI3
    simp only[Xs.lv'] at hwk ⊢
    simp only[Z20]
    repeat' (first|(with_reducible first|refine uk ?_|refine wk ?_ ?_<;>intro _|(refine dr P250 mixed ?_ ?_ ?_;kernel_rfl;kernel_rfl)|refine andC ?_ ?_|refine zg hd (fun v2 hv2=>?_)|refine wg hwk (by simp[hw]) (fun v3 hv3=>?_))|simp -implicitDefEqProofs(disch:=first|assumption|omega)[*])
    all_goals exact Ends.eqat rfl (by simp) (hv1.trans (hv2.trans hv3))
   ·have hI2:=hI2 hk9
    clear hI3
    simp only[Xs.lv'] at hwk ⊢
    repeat' (first|(with_reducible first|refine uk ?_|refine wk ?_ ?_<;>intro _|(refine dr P250 mixed ?_ ?_ ?_;kernel_rfl;kernel_rfl)|refine andC ?_ ?_|refine zg hd (fun v2 hv2=>?_)|refine wg hwk (by simp[hw]) (fun v3 hv3=>?_))|simp -implicitDefEqProofs(disch:=first|assumption|omega)[*])
    all_goals exact⟨(z,J++[.cells [.int .i64 c1.now,row c1.threads,row c1.owners,row c1.counts,row c1.bufs,row c1.lockq,row c1.waitq,row c1.downq,row c1.sendq,row c1.recvq]],v3),hlen2,⟨hI2,hv1.trans (hv2.trans hv3)⟩,fz,by simp,rfl⟩
theorem zfU {p:Prog}(hp:MayP p){x:Xs}(h:Run p x)(hs:Small x){q:Req}(hq:ReqI p q)(hk:q.kind=6∨q.kind=7∨q.kind=8∨q.kind=9∨q.kind=10):zG Tryz.prog 250 [.agg x.lv,.int .i64 q.kind,.int .i64 q.a] (.agg (vf x q.kind q.a).lv):=by
 by_cases h6:q.kind=6
 ·rw[h6];have:=hq.mutex (.inl h6);exact zho hp h hs this.1 this.2
 by_cases h7:q.kind=7
 ·rw[h7];have:=hq.mutex (.inr h7);exact zgM hp h hs this.1 this.2
 have hc:=hq.cond (by omega)
 by_cases h8:q.kind=8
 ·rw[h8];exact zhJ hp h hs hc.1 hc.2
 exact zhB hp h hs (by omega) hc.1 hc.2
theorem Yq {p:Prog}(hp:MayP p){x:Xs}(h:Inv p (-1) noD x.c)(hs:Small x){c':Cor}(hth:c'.threads=x.c.threads):XsE 400 {x with c:=c' }∧zz c'<fu:=by
 have h1:=xK hp h hs hth
 have h2:=h1.2
 have hs1:=hs.1
 have hs2:=hs.2
 unfold fu at h2
 exact⟨⟨h1.1.n,h1.1.thr,by show x.seen.length+1+zz c'≤400;omega,by show x.woken.length+zz c'≤400;omega⟩,h1.2⟩
theorem Kw {x:Xs}{t:Int}{l:List Int}(h0:0≤t)(h1:t<x.c.threads.length)(h:XsE 400 x∧zz x.c<fu) :
  (XsE 1000 (wJ x t l)∧zz (wJ x t l).c<fu)∧(wJ x t l).woken.length+1+zz (wJ x t l).c≤1000∧(wJ x t l).c.threads.length=x.c.threads.length:=by
 have hk:=Qa (l:=l) (wP 400 fu) h0 h1 h.2 h.1
 have h2:=h.2
 have h3:=hk.c2
 have h4:=hk.b.seen
 have h5:=hk.b.woken
 refine⟨⟨⟨hk.b.n,hk.b.thr,?_,?_⟩,Nat.lt_of_le_of_lt h3 h2⟩,?_,hk.len⟩
 ·show (wW fu x t l).seen.length+1+zz (wW fu x t l).c≤1000;omega
 ·show (wW fu x t l).woken.length+zz (wW fu x t l).c≤1000;omega
 ·show (wW fu x t l).woken.length+1+zz (wW fu x t l).c≤1000;omega
theorem zje {p:Prog}(hp:MayP p){x:Xs}(h:Run p x)(hs:Small x){q:Req}(hk:q.kind=13)(h0:0≤q.a)(h1:q.a<p.chans.length):zG Tryz.prog 252 [.agg x.lv,.agg [.int .i64 q.kind,.int .i64 q.a,.int .i64 q.v]] (.agg (Qf x q).lv):=by
 refine .of fun s v=>?_
 have hl:=h.inv.len
 have hb:=h.inv.corB hp
 have hn1:=h.inv.nthr.2
 have hn2:=hp.threads.2
 obtain e:x.p=p:=h.p
 subst e
 have hxc:=zB h0 h1
 have hd:=zla (room:=at' x.p.chans q.a) (t:=x.t) (x:=q.v) hb h0 (by rw[hl.bufs];exact h1) (by rw[hl.sendq];exact h1) (by rw[hl.recvq];exact h1)
 have hth:(xM x.c q.a (at' x.p.chans q.a) x.t q.v).1.threads=x.c.threads:=by unfold xM;split<;>(try rfl);split<;>rfl
 have hr:(xM x.c q.a (at' x.p.chans q.a) x.t q.v).2.2=false∨(xM x.c q.a (at' x.p.chans q.a) x.t q.v).2.1 = -1∨(0≤(xM x.c q.a (at' x.p.chans q.a) x.t q.v).2.1∧(xM x.c q.a (at' x.p.chans q.a) x.t q.v).2.1<x.c.threads.length):=by
  unfold xM
  split
  ·rename_i hq
   exact .inr (.inr (h.inv.mem 7 q.a.toNat _ (by show _∈nth x.c.recvq q.a.toNat;exact zm hq)))
  ·split
   ·exact .inr (.inl rfl)
   ·exact .inl rfl
 have hE:=xK hp h.inv hs hth
 have hs2:=hs.2
 obtain⟨kind,a,w⟩:=q
 simp only at hk h0 h1 hxc hd hth hr hE ⊢
 subst hk
 unfold Qf
 simp only[if_true]
 have hroom:at' x.p.chans a=nth x.p.chans a.toNat:=rfl
 generalize hrr:xM x.c a (at' x.p.chans a) x.t w=r at *
 rw[hroom] at hd
 clear hrr hroom
 obtain⟨c1,t,is⟩:=r
 simp only at hth hr hE ⊢
 simp only[Cor.lv] at hd
 cases is
 ·simp only[if_true]
  have hre:=Qn (x:={x with c:=c1 }) (t:=x.t) (st:=6) (on:=a) (by show c1.threads.length≤_;rw[hth];omega) h.t.1 (by show x.t<(c1.threads.length:Int);rw[hth];exact h.t.2)
  generalize yj {x with c:=c1 } x.t 6 a=z at *
  simp only[Xs.lv'] at hre ⊢
  clear hth hE hr
  refine ac0 Tryz.func252 Tryz.ntmps252 ?_
  have hrs:Tryz.f252.results = #[.cell 4 226]:=rfl
  repeat' (first|(with_reducible first|refine uk ?_|refine wk ?_ ?_<;>intro _|(refine dr P252 mixed ?_ ?_ ?_;kernel_rfl;kernel_rfl)|refine andC ?_ ?_|refine zg hd (fun v1 hv1=>?_)|refine zg hre (fun v2 hv2=>?_))|simp -implicitDefEqProofs(disch:=first|assumption|omega)[*])
  all_goals exact Ends.eqat rfl (by simp) (hv1.trans hv2)
 simp only[Bool.true_eq_false,if_false]
 by_cases ht:t<0
 ·rw[if_pos ht]
  simp only[Xs.lv']
  clear hth hE hr
  refine ac0 Tryz.func252 Tryz.ntmps252 ?_
  have hrs:Tryz.f252.results = #[.cell 4 226]:=rfl
  repeat' (first|(with_reducible first|refine uk ?_|refine wk ?_ ?_<;>intro _|(refine dr P252 mixed ?_ ?_ ?_;kernel_rfl;kernel_rfl)|refine andC ?_ ?_|refine zg hd (fun v1 hv1=>?_))|simp -implicitDefEqProofs(disch:=first|assumption|omega)[*])
  all_goals exact Ends.eqat rfl (by simp) hv1
 rw[if_neg ht]
 have hti:0≤t∧t<(x.c.threads.length:Int):=by
  rcases hr with hr | hr | hr
  ·cases hr
  ·omega
  ·exact hr
 have hxt:=zB (l:=c1.threads) (i:=t) hti.1 (by rw[hth];exact hti.2)
 have hone:=h.inv.one t.toNat (by omega) (by omega)
 have hs8:(nth c1.threads t.toNat).state=8→0≤(nth c1.threads t.toNat).on∧(nth c1.threads t.toNat).on<x.p.choices.length:=by rw[hth];exact hone.choice
 have hwb:({x with c:=c1 } : Xs).woken.length+1+zz c1≤1000:=by show x.woken.length+1+zz c1≤1000;have:=hE.2;unfold fu at this;omega
 by_cases h8:(at' c1.threads t).state=8
 ·rw[if_pos h8]
  unfold at' at h8 ⊢
  have hon:=hs8 h8
  have hxo:=zB hon.1 hon.2
  have hch:=hp.choices.2 _ (uh hon.1 hon.2)
  unfold at' at hch
  have hix:=zmw (l:=nth x.p.choices (nth c1.threads t.toNat).on.toNat) (x:=a) (by omega)
  generalize idx (nth x.p.choices (nth c1.threads t.toNat).on.toNat) a=i at *
  have hwk:=wY (x:={x with c:=c1 }) (t:=t) (l:=[w,i]) (by show t<(c1.threads.length:Int);rw[hth];exact hti.2) hE hwb (by simp)
  have hw:Weak (.imm 1 2 [.int .i64 w,.int .i64 i] .full) (row [w,i]):=vM rfl rfl
  generalize yO {x with c:=c1 } t [w,i]=z at *
  simp only[Xs.lv'] at hwk ⊢
  clear hth hE hr hone hs8 hch
  refine ac0 Tryz.func252 Tryz.ntmps252 ?_
  have hrs:Tryz.f252.results = #[.cell 4 226]:=rfl
  repeat' (first|(with_reducible first|refine uk ?_|refine wk ?_ ?_<;>intro _|(refine dr P252 mixed ?_ ?_ ?_;kernel_rfl;kernel_rfl)|refine andC ?_ ?_|refine zg hd (fun v1 hv1=>?_)|refine zc hix ?_|refine wg hwk (by simp[hw]) (fun v2 hv2=>?_))|simp -implicitDefEqProofs(disch:=first|assumption|omega)[*])
  all_goals exact Ends.eqat rfl (by simp) (hv1.trans hv2)
 ·rw[if_neg h8]
  unfold at' at h8
  have hwk:=wY (x:={x with c:=c1 }) (t:=t) (l:=[w]) (by show t<(c1.threads.length:Int);rw[hth];exact hti.2) hE hwb (by simp)
  have hw:Weak (.imm 1 1 [.int .i64 w] .full) (row [w]):=vM rfl rfl
  generalize yO {x with c:=c1 } t [w]=z at *
  simp only[Xs.lv'] at hwk ⊢
  clear hth hE hr hone hs8
  refine ac0 Tryz.func252 Tryz.ntmps252 ?_
  have hrs:Tryz.f252.results = #[.cell 4 226]:=rfl
  repeat' (first|(with_reducible first|refine uk ?_|refine wk ?_ ?_<;>intro _|(refine dr P252 mixed ?_ ?_ ?_;kernel_rfl;kernel_rfl)|refine andC ?_ ?_|refine zg hd (fun v1 hv1=>?_)|refine wg hwk (by simp[hw]) (fun v2 hv2=>?_))|simp -implicitDefEqProofs(disch:=first|assumption|omega)[*])
  all_goals exact Ends.eqat rfl (by simp) (hv1.trans hv2)
theorem Yl {p:Prog}{c:Cor}(h:Inv p (-1) noD c)(ch t:Int):(yN c ch t).2.2.1<(c.threads.length:Int):=by
 have hn:=h.nthr.1
 have hm:0<(at' c.sendq ch).length→nth (at' c.sendq ch) 0<(c.threads.length:Int):=fun hq=>by
  have:=h.mem 6 ch.toNat (nth (at' c.sendq ch) 0) (by
   show _∈vC (at' c.sendq ch)
   generalize at' c.sendq ch=l at *
   match l,hq with
   | [x],_=>simp[vC,nth]
   | x :: y :: l,_=>simp[vC,nth])
  exact this.2
 unfold yN
 split
 ·split
  ·rename_i hq;exact hm hq
  ·show (-1:Int)<_;omega
 ·split
  ·rename_i hq;exact hm hq
  ·show (-1:Int)<_;omega
theorem YM (c:Cor)(ch t:Int):(yN c ch t).1.threads=c.threads:=by unfold yN;split<;>split<;>rfl
theorem zio {p:Prog}{c:Cor}(h:Inv p (-1) noD c){ch:Nat}(h1:ch<p.chans.length):0<(nth c.sendq ch).length→2≤(nth c.sendq ch).length:=fun h0=>by
 have:=(h.things.chan ch h1).even;omega
theorem zjH {p:Prog}(hp:MayP p){x:Xs}(h:Run p x)(hs:Small x){q:Req}(hk:q.kind=14)(h0:0≤q.a)(h1:q.a<p.chans.length):zG Tryz.prog 252 [.agg x.lv,.agg [.int .i64 q.kind,.int .i64 q.a,.int .i64 q.v]] (.agg (Qf x q).lv):=by
 refine .of fun s v=>?_
 have hl:=h.inv.len
 have hb:=h.inv.corB hp
 have hn1:=h.inv.nthr.2
 have hn2:=hp.threads.2
 have hd:=zig (t:=x.t) hb h0 (by rw[hl.bufs];exact h1) (by rw[hl.sendq];exact h1) (by rw[hl.recvq];exact h1) (zio h.inv (by omega))
 have hth:=YM x.c q.a x.t
 have hlt:=Yl h.inv q.a x.t
 have hE:=Yq hp h.inv hs hth
 have hE1:=xK hp h.inv hs hth
 obtain⟨kind,a,w⟩:=q
 simp only at hk h0 h1 hd hth hE hE1 hlt ⊢
 subst hk
 unfold Qf
 simp only[show ¬ (14:Int)=13 by omega,if_false,if_true]
 generalize yN x.c a x.t=r at *
 obtain⟨c1,b,t,is⟩:=r
 simp only at hth hE hE1 hlt ⊢
 simp only[Cor.lv] at hd
 cases is
 ·simp only[if_true]
  have hre:=Qn (x:={x with c:=c1 }) (t:=x.t) (st:=7) (on:=a) (by show c1.threads.length≤_;rw[hth];omega) h.t.1 (by show x.t<(c1.threads.length:Int);rw[hth];exact h.t.2)
  generalize yj {x with c:=c1 } x.t 7 a=z at *
  simp only[Xs.lv'] at hre ⊢
  clear hth hE hE1
  refine ac0 Tryz.func252 Tryz.ntmps252 ?_
  have hrs:Tryz.f252.results = #[.cell 4 226]:=rfl
  repeat' (first|(with_reducible first|refine uk ?_|refine wk ?_ ?_<;>intro _|(refine dr P252 mixed ?_ ?_ ?_;kernel_rfl;kernel_rfl)|refine andC ?_ ?_|refine zg hd (fun v1 hv1=>?_)|refine zg hre (fun v2 hv2=>?_))|simp -implicitDefEqProofs(disch:=first|assumption|omega)[*])
  all_goals exact Ends.eqat rfl (by simp) (hv1.trans hv2)
 simp only[Bool.true_eq_false,if_false]
 have ht1:x.t<(({x with c:=c1 } : Xs).c.threads.length:Int):=by show x.t<(c1.threads.length:Int);rw[hth];exact h.t.2
 have hte:=Kh (x:={x with c:=c1 }) (t:=x.t) (l:=[b]) h.t.1 ht1 hE1 (by simp)
 have hsm:=Kw (x:={x with c:=c1 }) (t:=x.t) (l:=[b]) h.t.1 ht1 hE
 have hw1:Weak (.imm 1 1 [.int .i64 b] .full) (row [b]):=vM rfl rfl
 generalize wJ {x with c:=c1 } x.t [b]=y at *
 have hwk:=wY (x:=y) (t:=t) (l:=[]) (by rw[hsm.2.2];show t<(c1.threads.length:Int);rw[hth];exact hlt) hsm.1 hsm.2.1 (by simp)
 have hw2:Weak .nils (row ([]:List Int)):=Weak.nilrow
 generalize yO y t []=z at *
 simp only[Xs.lv'] at hte hwk ⊢
 clear hth hE hE1 hsm
 refine ac0 Tryz.func252 Tryz.ntmps252 ?_
 have hrs:Tryz.f252.results = #[.cell 4 226]:=rfl
 repeat' (first|(with_reducible first|refine uk ?_|refine wk ?_ ?_<;>intro _|(refine dr P252 mixed ?_ ?_ ?_;kernel_rfl;kernel_rfl)|refine andC ?_ ?_|refine zg hd (fun v1 hv1=>?_)|refine wg hte (by simp[hw1]) (fun v2 hv2=>?_)|refine wg hwk (by simp[hw2]) (fun v3 hv3=>?_))|simp -implicitDefEqProofs(disch:=first|assumption|omega)[*])
 all_goals exact Ends.eqat rfl (by simp) (hv1.trans (hv2.trans hv3))
theorem zkn {p:Prog}(hp:MayP p){x:Xs}(h:Run p x)(hs:Small x){q:Req}(hk:q.kind=15)(h0:0≤q.a)(h1:q.a<p.choices.length):zG Tryz.prog 252 [.agg x.lv,.agg [.int .i64 q.kind,.int .i64 q.a,.int .i64 q.v]] (.agg (Qf x q).lv):=by
 refine .of fun s v=>?_
 have hl:=h.inv.len
 have hb:=h.inv.corB hp
 have hn1:=h.inv.nthr.2
 have hn2:=hp.threads.2
 obtain e:x.p=p:=h.p
 subst e
 have hxc:=zB h0 h1
 have hch:=hp.choices.2 _ (uh h0 h1)
 unfold at' at hch
 have hcn:x.p.chans.length≠0:=fun e=>by
  have:=hch.2.2.2 (nth (nth x.p.choices q.a.toNat) 0) (zm (by omega))
  omega
 have hrq:∀ r∈x.c.recvq,r.length≤100:=fun r hr=>by
  obtain⟨k,hk,rfl⟩:=List.getElem_of_mem hr
  rw[← zK hk]
  have h7:=h.inv.cnt_le (r:=7) (k:=k) (by simp[yv];rw[← hl.recvq];exact hk)
  have e7:zJ x.c 7 k=nth x.c.recvq k:=by simp[zJ]
  rw[e7] at h7
  omega
 have hd:=zgj (l:=at' x.p.choices q.a) (t:=x.t) hb hch.2.2.1 (fun y hy=>by rw[hl.bufs];exact hch.2.2.2 y hy) (by rw[hl.bufs,hl.sendq];exact Nat.le_refl _) (by rw[hl.bufs,hl.recvq];exact Nat.le_refl _) (by rw[hl.bufs];exact hcn) (fun k hk=>zio h.inv (by rw[← hl.sendq];exact hk)) hrq
 have hth:(yI x.c (at' x.p.choices q.a) x.t).1.threads=x.c.threads:=by
  unfold yI
  split
  ·exact YM _ _ _
  ·rfl
 have hlt:(yI x.c (at' x.p.choices q.a) x.t).2.2.2.1<(x.c.threads.length:Int):=by
  unfold yI
  split
  ·exact Yl h.inv _ _
  ·show (-1:Int)<_;have:=h.inv.nthr.1;omega
 have hE:=Yq hp h.inv hs hth
 have hE1:=xK hp h.inv hs hth
 obtain⟨kind,a,w⟩:=q
 simp only at hk h0 h1 hxc hd hth hE hE1 hlt ⊢
 subst hk
 unfold Qf
 simp only[show ¬ (15:Int)=13 by omega,show ¬ (15:Int)=14 by omega,if_false]
 have hcc:at' x.p.choices a=nth x.p.choices a.toNat:=rfl
 generalize hrr:yI x.c (at' x.p.choices a) x.t=r at *
 rw[hcc] at hd
 clear hrr hcc hrq hch
 obtain⟨c1,i,b,t,is⟩:=r
 simp only at hth hE hE1 hlt ⊢
 simp only[Cor.lv] at hd
 cases is
 ·simp only[if_true]
  have hre:=Qn (x:={x with c:=c1 }) (t:=x.t) (st:=8) (on:=a) (by show c1.threads.length≤_;rw[hth];omega) h.t.1 (by show x.t<(c1.threads.length:Int);rw[hth];exact h.t.2)
  generalize yj {x with c:=c1 } x.t 8 a=z at *
  simp only[Xs.lv'] at hre ⊢
  clear hth hE hE1
  refine ac0 Tryz.func252 Tryz.ntmps252 ?_
  have hrs:Tryz.f252.results = #[.cell 4 226]:=rfl
  repeat' (first|(with_reducible first|refine uk ?_|refine wk ?_ ?_<;>intro _|(refine dr P252 mixed ?_ ?_ ?_;kernel_rfl;kernel_rfl)|refine andC ?_ ?_|refine zg hd (fun v1 hv1=>?_)|refine zg hre (fun v2 hv2=>?_))|simp -implicitDefEqProofs(disch:=first|assumption|omega)[*])
  all_goals exact Ends.eqat rfl (by simp) (hv1.trans hv2)
 simp only[Bool.true_eq_false,if_false]
 have ht1:x.t<(({x with c:=c1 } : Xs).c.threads.length:Int):=by show x.t<(c1.threads.length:Int);rw[hth];exact h.t.2
 have hte:=Kh (x:={x with c:=c1 }) (t:=x.t) (l:=[b,i]) h.t.1 ht1 hE1 (by simp)
 have hsm:=Kw (x:={x with c:=c1 }) (t:=x.t) (l:=[b,i]) h.t.1 ht1 hE
 have hw1:Weak (.imm 1 2 [.int .i64 b,.int .i64 i] .full) (row [b,i]):=vM rfl rfl
 generalize wJ {x with c:=c1 } x.t [b,i]=y at *
 have hwk:=wY (x:=y) (t:=t) (l:=[]) (by rw[hsm.2.2];show t<(c1.threads.length:Int);rw[hth];exact hlt) hsm.1 hsm.2.1 (by simp)
 have hw2:Weak .nils (row ([]:List Int)):=Weak.nilrow
 generalize yO y t []=z at *
 simp only[Xs.lv'] at hte hwk ⊢
 clear hth hE hE1 hsm
 refine ac0 Tryz.func252 Tryz.ntmps252 ?_
 have hrs:Tryz.f252.results = #[.cell 4 226]:=rfl
 repeat' (first|(with_reducible first|refine uk ?_|refine wk ?_ ?_<;>intro _|(refine dr P252 mixed ?_ ?_ ?_;kernel_rfl;kernel_rfl)|refine andC ?_ ?_|refine zg hd (fun v1 hv1=>?_)|refine wg hte (by simp[hw1]) (fun v2 hv2=>?_)|refine wg hwk (by simp[hw2]) (fun v3 hv3=>?_))|simp -implicitDefEqProofs(disch:=first|assumption|omega)[*])
 all_goals exact Ends.eqat rfl (by simp) (hv1.trans (hv2.trans hv3))
end Go.Hb
end
