/-
  A layer for reasoning about the program's calls, and contracts of its functions. CONDITIONS: none; each theorem bears its own.
-/
import Derived.Test.YtieoaonaijbijaaGreatG23
set_option linter.unusedVariables false
set_option linter.unusedSimpArgs false
section
namespace Go.Hb
open Go Go.Proofs Go.RowKit
set_option maxRecDepth 100000
set_option maxHeartbeats 800000
attribute [-simp] aC aL aOper aThen aInBlock aIf aPlan aAppend aLen aIndexAddr aSlice aCells aBounds lBr aq initT aev aAppendOwn aAppendNil aAppendNew aAppendRef LV.cells LV.cellsOk getElem?_pos getElem?_neg
theorem xsE_mid4 {p:Prog} (hp:MayP p) {x:Xs} (h:Inv p (-1) noD x.c) (hs:Small x) {c':Cor} (hth:c'.threads=x.c.threads):XsE 400 {x with c:=c' }∧count2 c'<fu:=by
 have h1:=xsE_mid hp h hs hth
 have h2:=h1.2
 have hs1:=hs.1
 have hs2:=hs.2
 unfold fu at h2
 exact⟨⟨h1.1.n,h1.1.thr,by show x.seen.length+1+count2 c'≤400;omega,by show x.woken.length+count2 c'≤400;omega⟩,h1.2⟩
theorem tell_small {x:Xs} {t:Int} {l:List Int} (h0:0≤t) (h1:t<x.c.threads.length) (h:XsE 400 x∧count2 x.c<fu) :
  (XsE 1000 (tellF x t l)∧count2 (tellF x t l).c<fu)∧(tellF x t l).woken.length+1+count2 (tellF x t l).c≤1000∧(tellF x t l).c.threads.length=x.c.threads.length:=by
 have hk:=tell_keeps (l:=l) (end_keeps 400 fu) h0 h1 h.2 h.1
 have h2:=h.2
 have h3:=hk.c2
 have h4:=hk.b.seen
 have h5:=hk.b.woken
 refine⟨⟨⟨hk.b.n,hk.b.thr,?_,?_⟩,Nat.lt_of_le_of_lt h3 h2⟩,?_,hk.len⟩
 ·show (tellX fu x t l).seen.length+1+count2 (tellX fu x t l).c≤1000;omega
 ·show (tellX fu x t l).woken.length+count2 (tellX fu x t l).c≤1000;omega
 ·show (tellX fu x t l).woken.length+1+count2 (tellX fu x t l).c≤1000;omega
theorem chanS_p {p:Prog} (hp:MayP p) {x:Xs} (h:Run p x) (hs:Small x) {q:Req} (hk:q.kind=13) (h0:0≤q.a) (h1:q.a<p.chans.length):PureC Tryz.prog 252 [.agg x.lv,.agg [.int .i64 q.kind,.int .i64 q.a,.int .i64 q.v]] (.agg (chanX x q).lv):=by
 refine .of fun s v=>?_
 have hl:=h.inv.len
 have hb:=h.inv.corB hp
 have hn1:=h.inv.nthr.2
 have hn2:=hp.threads.2
 obtain e:x.p=p:=h.p
 subst e
 have hxc:=ix_in h0 h1
 have hd:=send_p (room:=at' x.p.chans q.a) (t:=x.t) (x:=q.v) hb h0 (by rw [hl.bufs];exact h1) (by rw [hl.sendq];exact h1) (by rw [hl.recvq];exact h1)
 have hth:(sendC x.c q.a (at' x.p.chans q.a) x.t q.v).1.threads=x.c.threads:=by unfold sendC;split<;>(try rfl);split<;>rfl
 have hr:(sendC x.c q.a (at' x.p.chans q.a) x.t q.v).2.2=false∨(sendC x.c q.a (at' x.p.chans q.a) x.t q.v).2.1 = -1∨(0≤(sendC x.c q.a (at' x.p.chans q.a) x.t q.v).2.1∧(sendC x.c q.a (at' x.p.chans q.a) x.t q.v).2.1<x.c.threads.length):=by
  unfold sendC
  split
  ·rename_i hq
   exact .inr (.inr (h.inv.mem 7 q.a.toNat _ (by show _∈nth x.c.recvq q.a.toNat;exact nth_mem hq)))
  ·split
   ·exact .inr (.inl rfl)
   ·exact .inl rfl
 have hE:=xsE_mid hp h.inv hs hth
 have hs2:=hs.2
 obtain⟨kind,a,w⟩:=q
 simp only at hk h0 h1 hxc hd hth hr hE ⊢
 subst hk
 unfold chanX
 simp only [if_true]
 have hroom:at' x.p.chans a=nth x.p.chans a.toNat:=rfl
 generalize hrr:sendC x.c a (at' x.p.chans a) x.t w=r at *
 rw [hroom] at hd
 clear hrr hroom
 obtain⟨c1,t,is⟩:=r
 simp only at hth hr hE ⊢
 simp only [Cor.lv] at hd
 cases is
 ·simp only [if_true]
  have hre:=rest_p (x:={x with c:=c1 }) (t:=x.t) (st:=6) (on:=a) (by show c1.threads.length≤_;rw [hth];omega) h.t.1 (by show x.t<(c1.threads.length:Int);rw [hth];exact h.t.2)
  generalize restX {x with c:=c1 } x.t 6 a=z at *
  simp only [Xs.lv'] at hre ⊢
  clear hth hE hr
  refine ac0 Tryz.func252 Tryz.ntmps252 ?_
  have hrs:Tryz.f252.results = #[.cell 4 226]:=rfl
  repeat' (first|(with_reducible first|refine uk ?_|refine wk ?_ ?_<;>intro _|(refine dr P252 mixed ?_ ?_ ?_;kernel_rfl;kernel_rfl)|refine andC ?_ ?_|refine callC hd (fun v1 hv1=>?_)|refine callC hre (fun v2 hv2=>?_))|simp -implicitDefEqProofs(disch:=first|assumption|omega)[*])
  all_goals exact Ends.eqat rfl (by simp) (hv1.trans hv2)
 simp only [Bool.true_eq_false,if_false]
 by_cases ht:t<0
 ·rw [if_pos ht]
  simp only [Xs.lv']
  clear hth hE hr
  refine ac0 Tryz.func252 Tryz.ntmps252 ?_
  have hrs:Tryz.f252.results = #[.cell 4 226]:=rfl
  repeat' (first|(with_reducible first|refine uk ?_|refine wk ?_ ?_<;>intro _|(refine dr P252 mixed ?_ ?_ ?_;kernel_rfl;kernel_rfl)|refine andC ?_ ?_|refine callC hd (fun v1 hv1=>?_))|simp -implicitDefEqProofs(disch:=first|assumption|omega)[*])
  all_goals exact Ends.eqat rfl (by simp) hv1
 rw [if_neg ht]
 have hti:0≤t∧t<(x.c.threads.length:Int):=by
  rcases hr with hr | hr | hr
  ·cases hr
  ·omega
  ·exact hr
 have hxt:=ix_in (l:=c1.threads) (i:=t) hti.1 (by rw [hth];exact hti.2)
 have hone:=h.inv.one t.toNat (by omega) (by omega)
 have hs8:(nth c1.threads t.toNat).state=8→0≤(nth c1.threads t.toNat).on∧(nth c1.threads t.toNat).on<x.p.choices.length:=by rw [hth];exact hone.choice
 have hwb:({x with c:=c1 } : Xs).woken.length+1+count2 c1≤1000:=by show x.woken.length+1+count2 c1≤1000;have:=hE.2;unfold fu at this;omega
 by_cases h8:(at' c1.threads t).state=8
 ·rw [if_pos h8]
  unfold at' at h8 ⊢
  have hon:=hs8 h8
  have hxo:=ix_in hon.1 hon.2
  have hch:=hp.choices.2 _ (at_in hon.1 hon.2)
  unfold at' at hch
  have hix:=idx_p (l:=nth x.p.choices (nth c1.threads t.toNat).on.toNat) (x:=a) (by omega)
  generalize idx (nth x.p.choices (nth c1.threads t.toNat).on.toNat) a=i at *
  have hwk:=xwakeF_p (x:={x with c:=c1 }) (t:=t) (l:=[w,i]) (by show t<(c1.threads.length:Int);rw [hth];exact hti.2) hE hwb (by simp)
  have hw:Weak (.imm 1 2 [.int .i64 w,.int .i64 i] .full) (row [w,i]):=imm1_row rfl rfl
  generalize wakeF {x with c:=c1 } t [w,i]=z at *
  simp only [Xs.lv'] at hwk ⊢
  clear hth hE hr hone hs8 hch
  refine ac0 Tryz.func252 Tryz.ntmps252 ?_
  have hrs:Tryz.f252.results = #[.cell 4 226]:=rfl
  repeat' (first|(with_reducible first|refine uk ?_|refine wk ?_ ?_<;>intro _|(refine dr P252 mixed ?_ ?_ ?_;kernel_rfl;kernel_rfl)|refine andC ?_ ?_|refine callC hd (fun v1 hv1=>?_)|refine callE hix ?_|refine callWC hwk (by simp [hw]) (fun v2 hv2=>?_))|simp -implicitDefEqProofs(disch:=first|assumption|omega)[*])
  all_goals exact Ends.eqat rfl (by simp) (hv1.trans hv2)
 ·rw [if_neg h8]
  unfold at' at h8
  have hwk:=xwakeF_p (x:={x with c:=c1 }) (t:=t) (l:=[w]) (by show t<(c1.threads.length:Int);rw [hth];exact hti.2) hE hwb (by simp)
  have hw:Weak (.imm 1 1 [.int .i64 w] .full) (row [w]):=imm1_row rfl rfl
  generalize wakeF {x with c:=c1 } t [w]=z at *
  simp only [Xs.lv'] at hwk ⊢
  clear hth hE hr hone hs8
  refine ac0 Tryz.func252 Tryz.ntmps252 ?_
  have hrs:Tryz.f252.results = #[.cell 4 226]:=rfl
  repeat' (first|(with_reducible first|refine uk ?_|refine wk ?_ ?_<;>intro _|(refine dr P252 mixed ?_ ?_ ?_;kernel_rfl;kernel_rfl)|refine andC ?_ ?_|refine callC hd (fun v1 hv1=>?_)|refine callWC hwk (by simp [hw]) (fun v2 hv2=>?_))|simp -implicitDefEqProofs(disch:=first|assumption|omega)[*])
  all_goals exact Ends.eqat rfl (by simp) (hv1.trans hv2)
theorem recv_lt {p:Prog} {c:Cor} (h:Inv p (-1) noD c) (ch t:Int):(recvC c ch t).2.2.1<(c.threads.length:Int):=by
 have hn:=h.nthr.1
 have hm:0<(at' c.sendq ch).length→nth (at' c.sendq ch) 0<(c.threads.length:Int):=fun hq=>by
  have:=h.mem 6 ch.toNat (nth (at' c.sendq ch) 0) (by
   show _∈evens (at' c.sendq ch)
   generalize at' c.sendq ch=l at *
   match l,hq with
   | [x],_=>simp [evens,nth]
   | x :: y :: l,_=>simp [evens,nth])
  exact this.2
 unfold recvC
 split
 ·split
  ·rename_i hq;exact hm hq
  ·show (-1:Int)<_;omega
 ·split
  ·rename_i hq;exact hm hq
  ·show (-1:Int)<_;omega
theorem recv_th (c:Cor) (ch t:Int):(recvC c ch t).1.threads=c.threads:=by unfold recvC;split<;>split<;>rfl
theorem sendq2 {p:Prog} {c:Cor} (h:Inv p (-1) noD c) {ch:Nat} (h1:ch<p.chans.length):0<(nth c.sendq ch).length→2≤(nth c.sendq ch).length:=fun h0=>by
 have:=(h.things.chan ch h1).even;omega
theorem chanR_p {p:Prog} (hp:MayP p) {x:Xs} (h:Run p x) (hs:Small x) {q:Req} (hk:q.kind=14) (h0:0≤q.a) (h1:q.a<p.chans.length):PureC Tryz.prog 252 [.agg x.lv,.agg [.int .i64 q.kind,.int .i64 q.a,.int .i64 q.v]] (.agg (chanX x q).lv):=by
 refine .of fun s v=>?_
 have hl:=h.inv.len
 have hb:=h.inv.corB hp
 have hn1:=h.inv.nthr.2
 have hn2:=hp.threads.2
 have hd:=recv_p (t:=x.t) hb h0 (by rw [hl.bufs];exact h1) (by rw [hl.sendq];exact h1) (by rw [hl.recvq];exact h1) (sendq2 h.inv (by omega))
 have hth:=recv_th x.c q.a x.t
 have hlt:=recv_lt h.inv q.a x.t
 have hE:=xsE_mid4 hp h.inv hs hth
 have hE1:=xsE_mid hp h.inv hs hth
 obtain⟨kind,a,w⟩:=q
 simp only at hk h0 h1 hd hth hE hE1 hlt ⊢
 subst hk
 unfold chanX
 simp only [show ¬ (14:Int)=13 by omega,if_false,if_true]
 generalize recvC x.c a x.t=r at *
 obtain⟨c1,b,t,is⟩:=r
 simp only at hth hE hE1 hlt ⊢
 simp only [Cor.lv] at hd
 cases is
 ·simp only [if_true]
  have hre:=rest_p (x:={x with c:=c1 }) (t:=x.t) (st:=7) (on:=a) (by show c1.threads.length≤_;rw [hth];omega) h.t.1 (by show x.t<(c1.threads.length:Int);rw [hth];exact h.t.2)
  generalize restX {x with c:=c1 } x.t 7 a=z at *
  simp only [Xs.lv'] at hre ⊢
  clear hth hE hE1
  refine ac0 Tryz.func252 Tryz.ntmps252 ?_
  have hrs:Tryz.f252.results = #[.cell 4 226]:=rfl
  repeat' (first|(with_reducible first|refine uk ?_|refine wk ?_ ?_<;>intro _|(refine dr P252 mixed ?_ ?_ ?_;kernel_rfl;kernel_rfl)|refine andC ?_ ?_|refine callC hd (fun v1 hv1=>?_)|refine callC hre (fun v2 hv2=>?_))|simp -implicitDefEqProofs(disch:=first|assumption|omega)[*])
  all_goals exact Ends.eqat rfl (by simp) (hv1.trans hv2)
 simp only [Bool.true_eq_false,if_false]
 have ht1:x.t<(({x with c:=c1 } : Xs).c.threads.length:Int):=by show x.t<(c1.threads.length:Int);rw [hth];exact h.t.2
 have hte:=xtellF_p (x:={x with c:=c1 }) (t:=x.t) (l:=[b]) h.t.1 ht1 hE1 (by simp)
 have hsm:=tell_small (x:={x with c:=c1 }) (t:=x.t) (l:=[b]) h.t.1 ht1 hE
 have hw1:Weak (.imm 1 1 [.int .i64 b] .full) (row [b]):=imm1_row rfl rfl
 generalize tellF {x with c:=c1 } x.t [b]=y at *
 have hwk:=xwakeF_p (x:=y) (t:=t) (l:=[]) (by rw [hsm.2.2];show t<(c1.threads.length:Int);rw [hth];exact hlt) hsm.1 hsm.2.1 (by simp)
 have hw2:Weak .nils (row ([]:List Int)):=Weak.nilrow
 generalize wakeF y t []=z at *
 simp only [Xs.lv'] at hte hwk ⊢
 clear hth hE hE1 hsm
 refine ac0 Tryz.func252 Tryz.ntmps252 ?_
 have hrs:Tryz.f252.results = #[.cell 4 226]:=rfl
 repeat' (first|(with_reducible first|refine uk ?_|refine wk ?_ ?_<;>intro _|(refine dr P252 mixed ?_ ?_ ?_;kernel_rfl;kernel_rfl)|refine andC ?_ ?_|refine callC hd (fun v1 hv1=>?_)|refine callWC hte (by simp [hw1]) (fun v2 hv2=>?_)|refine callWC hwk (by simp [hw2]) (fun v3 hv3=>?_))|simp -implicitDefEqProofs(disch:=first|assumption|omega)[*])
 all_goals exact Ends.eqat rfl (by simp) (hv1.trans (hv2.trans hv3))
theorem chanC_p {p:Prog} (hp:MayP p) {x:Xs} (h:Run p x) (hs:Small x) {q:Req} (hk:q.kind=15) (h0:0≤q.a) (h1:q.a<p.choices.length):PureC Tryz.prog 252 [.agg x.lv,.agg [.int .i64 q.kind,.int .i64 q.a,.int .i64 q.v]] (.agg (chanX x q).lv):=by
 refine .of fun s v=>?_
 have hl:=h.inv.len
 have hb:=h.inv.corB hp
 have hn1:=h.inv.nthr.2
 have hn2:=hp.threads.2
 obtain e:x.p=p:=h.p
 subst e
 have hxc:=ix_in h0 h1
 have hch:=hp.choices.2 _ (at_in h0 h1)
 unfold at' at hch
 have hcn:x.p.chans.length≠0:=fun e=>by
  have:=hch.2.2.2 (nth (nth x.p.choices q.a.toNat) 0) (nth_mem (by omega))
  omega
 have hrq:∀ r∈x.c.recvq,r.length≤100:=fun r hr=>by
  obtain⟨k,hk,rfl⟩:=List.getElem_of_mem hr
  rw [← nth_eq hk]
  have h7:=h.inv.cnt_le (r:=7) (k:=k) (by simp [nRows];rw [← hl.recvq];exact hk)
  have e7:rowOf x.c 7 k=nth x.c.recvq k:=by simp [rowOf]
  rw [e7] at h7
  omega
 have hd:=select_p (l:=at' x.p.choices q.a) (t:=x.t) hb hch.2.2.1 (fun y hy=>by rw [hl.bufs];exact hch.2.2.2 y hy) (by rw [hl.bufs,hl.sendq];exact Nat.le_refl _) (by rw [hl.bufs,hl.recvq];exact Nat.le_refl _) (by rw [hl.bufs];exact hcn) (fun k hk=>sendq2 h.inv (by rw [← hl.sendq];exact hk)) hrq
 have hth:(selectC x.c (at' x.p.choices q.a) x.t).1.threads=x.c.threads:=by
  unfold selectC
  split
  ·exact recv_th _ _ _
  ·rfl
 have hlt:(selectC x.c (at' x.p.choices q.a) x.t).2.2.2.1<(x.c.threads.length:Int):=by
  unfold selectC
  split
  ·exact recv_lt h.inv _ _
  ·show (-1:Int)<_;have:=h.inv.nthr.1;omega
 have hE:=xsE_mid4 hp h.inv hs hth
 have hE1:=xsE_mid hp h.inv hs hth
 obtain⟨kind,a,w⟩:=q
 simp only at hk h0 h1 hxc hd hth hE hE1 hlt ⊢
 subst hk
 unfold chanX
 simp only [show ¬ (15:Int)=13 by omega,show ¬ (15:Int)=14 by omega,if_false]
 have hcc:at' x.p.choices a=nth x.p.choices a.toNat:=rfl
 generalize hrr:selectC x.c (at' x.p.choices a) x.t=r at *
 rw [hcc] at hd
 clear hrr hcc hrq hch
 obtain⟨c1,i,b,t,is⟩:=r
 simp only at hth hE hE1 hlt ⊢
 simp only [Cor.lv] at hd
 cases is
 ·simp only [if_true]
  have hre:=rest_p (x:={x with c:=c1 }) (t:=x.t) (st:=8) (on:=a) (by show c1.threads.length≤_;rw [hth];omega) h.t.1 (by show x.t<(c1.threads.length:Int);rw [hth];exact h.t.2)
  generalize restX {x with c:=c1 } x.t 8 a=z at *
  simp only [Xs.lv'] at hre ⊢
  clear hth hE hE1
  refine ac0 Tryz.func252 Tryz.ntmps252 ?_
  have hrs:Tryz.f252.results = #[.cell 4 226]:=rfl
  repeat' (first|(with_reducible first|refine uk ?_|refine wk ?_ ?_<;>intro _|(refine dr P252 mixed ?_ ?_ ?_;kernel_rfl;kernel_rfl)|refine andC ?_ ?_|refine callC hd (fun v1 hv1=>?_)|refine callC hre (fun v2 hv2=>?_))|simp -implicitDefEqProofs(disch:=first|assumption|omega)[*])
  all_goals exact Ends.eqat rfl (by simp) (hv1.trans hv2)
 simp only [Bool.true_eq_false,if_false]
 have ht1:x.t<(({x with c:=c1 } : Xs).c.threads.length:Int):=by show x.t<(c1.threads.length:Int);rw [hth];exact h.t.2
 have hte:=xtellF_p (x:={x with c:=c1 }) (t:=x.t) (l:=[b,i]) h.t.1 ht1 hE1 (by simp)
 have hsm:=tell_small (x:={x with c:=c1 }) (t:=x.t) (l:=[b,i]) h.t.1 ht1 hE
 have hw1:Weak (.imm 1 2 [.int .i64 b,.int .i64 i] .full) (row [b,i]):=imm1_row rfl rfl
 generalize tellF {x with c:=c1 } x.t [b,i]=y at *
 have hwk:=xwakeF_p (x:=y) (t:=t) (l:=[]) (by rw [hsm.2.2];show t<(c1.threads.length:Int);rw [hth];exact hlt) hsm.1 hsm.2.1 (by simp)
 have hw2:Weak .nils (row ([]:List Int)):=Weak.nilrow
 generalize wakeF y t []=z at *
 simp only [Xs.lv'] at hte hwk ⊢
 clear hth hE hE1 hsm
 refine ac0 Tryz.func252 Tryz.ntmps252 ?_
 have hrs:Tryz.f252.results = #[.cell 4 226]:=rfl
 repeat' (first|(with_reducible first|refine uk ?_|refine wk ?_ ?_<;>intro _|(refine dr P252 mixed ?_ ?_ ?_;kernel_rfl;kernel_rfl)|refine andC ?_ ?_|refine callC hd (fun v1 hv1=>?_)|refine callWC hte (by simp [hw1]) (fun v2 hv2=>?_)|refine callWC hwk (by simp [hw2]) (fun v3 hv3=>?_))|simp -implicitDefEqProofs(disch:=first|assumption|omega)[*])
 all_goals exact Ends.eqat rfl (by simp) (hv1.trans (hv2.trans hv3))
theorem meet1_p {x:Xs} {a w:Int} (h0:0≤x.t) (h1:x.t<x.c.threads.length) (h:XsE 1000 x∧count2 x.c<fu):PureC Tryz.prog 200 [.agg x.lv,.agg [.int .i64 1,.int .i64 a,.int .i64 w]] (.agg (endF x x.t w).lv):=by
 refine .of fun s v=>?_
 have he:=xendF_p (code:=w) h0 h1 h
 generalize endF x x.t w=z at *
 simp only [Xs.lv'] at he ⊢
 refine ac0 Tryz.func200 Tryz.ntmps200 ?_
 have hrs:Tryz.f200.results = #[.cell 4 226]:=rfl
 repeat' (first|(with_reducible first|refine uk ?_|refine wk ?_ ?_<;>intro _|refine andC ?_ ?_|refine callC he (fun v2 hv2=>?_))|simp -implicitDefEqProofs(disch:=first|assumption|omega)[*])
 all_goals exact Ends.eqat rfl (by simp) hv2
theorem meet_p {p:Prog} (hp:MayP p) {x:Xs} (h:Run p x) (hs:Small x) {q:Req} (hq:ReqI p q):PureC Tryz.prog 200 [.agg x.lv,.agg [.int .i64 q.kind,.int .i64 q.a,.int .i64 q.v]] (.agg (meetX x q).lv):=by
 have hk:=hq.kind
 have hn1:=h.inv.nthr.2
 have hn2:=hp.threads.2
 unfold meetX
 rw [if_neg hk.2.2]
 by_cases h3:q.kind=3
 ·refine .of fun s v=>?_
  have hc:=hq.spawn h3
  have hd:=spawn_p hp h hs hc.1 hc.2
  rw [if_pos h3]
  generalize spawnX x q.a=z at *
  clear hn1 hn2
  obtain⟨kind,a,w⟩:=q
  simp only at h3 hd;subst h3
  simp only [Xs.lv'] at hd ⊢
  refine ac0 Tryz.func200 Tryz.ntmps200 ?_
  have hrs:Tryz.f200.results = #[.cell 4 226]:=rfl
  repeat' (first|(with_reducible first|refine uk ?_|refine wk ?_ ?_<;>intro _|refine andC ?_ ?_|refine callC hd (fun v2 hv2=>?_))|simp -implicitDefEqProofs(disch:=first|assumption|omega)[*])
  all_goals exact Ends.eqat rfl (by simp) hv2
 rw [if_neg h3]
 by_cases h4:q.kind=4
 ·refine .of fun s v=>?_
  rw [if_pos h4]
  have hv:=hq.v
  have hnow:=h.inv.now
  have hkp:=keep_p (x.c.now+q.v)
  obtain⟨kind,a,w⟩:=q
  simp only at h4 hv hkp ⊢;subst h4
  by_cases hlt:x.c.now<keep (x.c.now+w)
  ·rw [if_pos hlt]
   have hd:=rest_p (x:=x) (t:=x.t) (st:=1) (on:=keep (x.c.now+w)) (by omega) h.t.1 h.t.2
   generalize restX x x.t 1 (keep (x.c.now+w))=z at *
   generalize keep (x.c.now+w)=on at *
   simp only [Xs.lv'] at hd ⊢
   refine ac0 Tryz.func200 Tryz.ntmps200 ?_
   have hrs:Tryz.f200.results = #[.cell 4 226]:=rfl
   repeat' (first|(with_reducible first|refine uk ?_|refine wk ?_ ?_<;>intro _|refine andC ?_ ?_|refine callE hkp ?_|refine callC hd (fun v2 hv2=>?_))|simp -implicitDefEqProofs(disch:=first|assumption|omega)[*])
   all_goals exact Ends.eqat rfl (by simp) hv2
  ·rw [if_neg hlt]
   generalize keep (x.c.now+w)=on at *
   simp only [Xs.lv']
   refine ac0 Tryz.func200 Tryz.ntmps200 ?_
   have hrs:Tryz.f200.results = #[.cell 4 226]:=rfl
   repeat' (first|(with_reducible first|refine uk ?_|refine wk ?_ ?_<;>intro _|refine andC ?_ ?_|refine callE hkp ?_)|simp -implicitDefEqProofs(disch:=first|assumption|omega)[*])
   all_goals exact Ends.eqat rfl (by simp) (List.prefix_refl _)
 rw [if_neg h4]
 by_cases h5:q.kind=5
 ·refine .of fun s v=>?_
  have hd:=join_p hp h hs q.v
  rw [if_pos h5]
  generalize joinX x q.v=z at *
  clear hn1 hn2
  obtain⟨kind,a,w⟩:=q
  simp only at h5 hd;subst h5
  simp only [Xs.lv'] at hd ⊢
  refine ac0 Tryz.func200 Tryz.ntmps200 ?_
  have hrs:Tryz.f200.results = #[.cell 4 226]:=rfl
  repeat' (first|(with_reducible first|refine uk ?_|refine wk ?_ ?_<;>intro _|refine andC ?_ ?_|refine callC hd (fun v2 hv2=>?_))|simp -implicitDefEqProofs(disch:=first|assumption|omega)[*])
  all_goals exact Ends.eqat rfl (by simp) hv2
 rw [if_neg h5]
 by_cases h6:q.kind=6∨q.kind=7∨q.kind=8∨q.kind=9∨q.kind=10
 ·refine .of fun s v=>?_
  have hd:=mutexes_p hp h hs hq h6
  rw [if_pos h6]
  generalize mutexX x q.kind q.a=z at *
  clear hn1 hn2 hk hq h3 h4 h5
  obtain⟨kind,a,w⟩:=q
  simp only at h6 hd ⊢
  simp only [Xs.lv'] at hd ⊢
  rcases h6 with h6 | h6 | h6 | h6 | h6
  all_goals subst h6
  ·refine ac0 Tryz.func200 Tryz.ntmps200 ?_
   have hrs:Tryz.f200.results = #[.cell 4 226]:=rfl
   repeat' (first|(with_reducible first|refine uk ?_|refine wk ?_ ?_<;>intro _|refine andC ?_ ?_|refine callC hd (fun v2 hv2=>?_))|simp -implicitDefEqProofs(disch:=first|assumption|omega)[*])
   all_goals exact Ends.eqat rfl (by simp) hv2
  ·refine ac0 Tryz.func200 Tryz.ntmps200 ?_
   have hrs:Tryz.f200.results = #[.cell 4 226]:=rfl
   repeat' (first|(with_reducible first|refine uk ?_|refine wk ?_ ?_<;>intro _|refine andC ?_ ?_|refine callC hd (fun v2 hv2=>?_))|simp -implicitDefEqProofs(disch:=first|assumption|omega)[*])
   all_goals exact Ends.eqat rfl (by simp) hv2
  ·refine ac0 Tryz.func200 Tryz.ntmps200 ?_
   have hrs:Tryz.f200.results = #[.cell 4 226]:=rfl
   repeat' (first|(with_reducible first|refine uk ?_|refine wk ?_ ?_<;>intro _|refine andC ?_ ?_|refine callC hd (fun v2 hv2=>?_))|simp -implicitDefEqProofs(disch:=first|assumption|omega)[*])
   all_goals exact Ends.eqat rfl (by simp) hv2
  ·refine ac0 Tryz.func200 Tryz.ntmps200 ?_
   have hrs:Tryz.f200.results = #[.cell 4 226]:=rfl
   repeat' (first|(with_reducible first|refine uk ?_|refine wk ?_ ?_<;>intro _|refine andC ?_ ?_|refine callC hd (fun v2 hv2=>?_))|simp -implicitDefEqProofs(disch:=first|assumption|omega)[*])
   all_goals exact Ends.eqat rfl (by simp) hv2
  ·refine ac0 Tryz.func200 Tryz.ntmps200 ?_
   have hrs:Tryz.f200.results = #[.cell 4 226]:=rfl
   repeat' (first|(with_reducible first|refine uk ?_|refine wk ?_ ?_<;>intro _|refine andC ?_ ?_|refine callC hd (fun v2 hv2=>?_))|simp -implicitDefEqProofs(disch:=first|assumption|omega)[*])
   all_goals exact Ends.eqat rfl (by simp) hv2
 rw [if_neg h6]
 by_cases h11:q.kind=11∨q.kind=12
 ·refine .of fun s v=>?_
  have hc:=hq.sema h11
  have hd:=semas_p hp h hs (kind:=q.kind) hc.1 hc.2
  rw [if_pos h11]
  generalize semaX x q.kind q.a=z at *
  clear hn1 hn2 hk hq h3 h4 h5 h6
  obtain⟨kind,a,w⟩:=q
  simp only at h11 hd ⊢
  simp only [Xs.lv'] at hd ⊢
  rcases h11 with h6 | h6
  all_goals subst h6
  ·refine ac0 Tryz.func200 Tryz.ntmps200 ?_
   have hrs:Tryz.f200.results = #[.cell 4 226]:=rfl
   repeat' (first|(with_reducible first|refine uk ?_|refine wk ?_ ?_<;>intro _|refine andC ?_ ?_|refine callC hd (fun v2 hv2=>?_))|simp -implicitDefEqProofs(disch:=first|assumption|omega)[*])
   all_goals exact Ends.eqat rfl (by simp) hv2
  ·refine ac0 Tryz.func200 Tryz.ntmps200 ?_
   have hrs:Tryz.f200.results = #[.cell 4 226]:=rfl
   repeat' (first|(with_reducible first|refine uk ?_|refine wk ?_ ?_<;>intro _|refine andC ?_ ?_|refine callC hd (fun v2 hv2=>?_))|simp -implicitDefEqProofs(disch:=first|assumption|omega)[*])
   all_goals exact Ends.eqat rfl (by simp) hv2
 rw [if_neg h11]
 by_cases h13:q.kind=13∨q.kind=14∨q.kind=15
 ·refine .of fun s v=>?_
  have hd:PureC Tryz.prog 252 [.agg x.lv,.agg [.int .i64 q.kind,.int .i64 q.a,.int .i64 q.v]] (.agg (chanX x q).lv):=by
   rcases h13 with h13 | h13 | h13
   ·have:=hq.chan (.inl h13);exact chanS_p hp h hs h13 this.1 this.2
   ·have:=hq.chan (.inr h13);exact chanR_p hp h hs h13 this.1 this.2
   ·have:=hq.choice h13;exact chanC_p hp h hs h13 this.1 this.2
  rw [if_pos h13]
  generalize chanX x q=z at *
  clear hn1 hn2 hk hq h3 h4 h5 h6 h11
  obtain⟨kind,a,w⟩:=q
  simp only at h13 hd ⊢
  simp only [Xs.lv'] at hd ⊢
  rcases h13 with h6 | h6 | h6
  all_goals subst h6
  ·refine ac0 Tryz.func200 Tryz.ntmps200 ?_
   have hrs:Tryz.f200.results = #[.cell 4 226]:=rfl
   repeat' (first|(with_reducible first|refine uk ?_|refine wk ?_ ?_<;>intro _|refine andC ?_ ?_|refine callC hd (fun v2 hv2=>?_))|simp -implicitDefEqProofs(disch:=first|assumption|omega)[*])
   all_goals exact Ends.eqat rfl (by simp) hv2
  ·refine ac0 Tryz.func200 Tryz.ntmps200 ?_
   have hrs:Tryz.f200.results = #[.cell 4 226]:=rfl
   repeat' (first|(with_reducible first|refine uk ?_|refine wk ?_ ?_<;>intro _|refine andC ?_ ?_|refine callC hd (fun v2 hv2=>?_))|simp -implicitDefEqProofs(disch:=first|assumption|omega)[*])
   all_goals exact Ends.eqat rfl (by simp) hv2
  ·refine ac0 Tryz.func200 Tryz.ntmps200 ?_
   have hrs:Tryz.f200.results = #[.cell 4 226]:=rfl
   repeat' (first|(with_reducible first|refine uk ?_|refine wk ?_ ?_<;>intro _|refine andC ?_ ?_|refine callC hd (fun v2 hv2=>?_))|simp -implicitDefEqProofs(disch:=first|assumption|omega)[*])
   all_goals exact Ends.eqat rfl (by simp) hv2
 rw [if_neg h13]
 by_cases h16:q.kind=16
 ·refine .of fun s v=>?_
  rw [if_pos h16]
  have hd:=see_p (x:=x) (k:=0) (t:=x.t) (n:=q.v) (by have:=hs.1;omega)
  generalize seeX x 0 x.t q.v=z at *
  obtain⟨kind,a,w⟩:=q
  simp only at h16 hd ⊢;subst h16
  simp only [Xs.lv'] at hd ⊢
  refine ac0 Tryz.func200 Tryz.ntmps200 ?_
  have hrs:Tryz.f200.results = #[.cell 4 226]:=rfl
  repeat' (first|(with_reducible first|refine uk ?_|refine wk ?_ ?_<;>intro _|refine andC ?_ ?_|refine callC hd (fun v2 hv2=>?_))|simp -implicitDefEqProofs(disch:=first|assumption|omega)[*])
  all_goals exact Ends.eqat rfl (by simp) hv2
 ·refine .of fun s v=>?_
  rw [if_neg h16]
  have h02:q.kind=0∨q.kind=2:=by omega
  clear hk hq h3 h4 h5 h6 h11 h13 h16
  obtain⟨kind,a,w⟩:=q
  simp only at h02 ⊢
  simp only [Xs.lv']
  rcases h02 with h6 | h6
  all_goals subst h6
  ·refine ac0 Tryz.func200 Tryz.ntmps200 ?_
   have hrs:Tryz.f200.results = #[.cell 4 226]:=rfl
   repeat' (first|(with_reducible first|refine uk ?_|refine wk ?_ ?_<;>intro _|refine andC ?_ ?_)|simp -implicitDefEqProofs(disch:=first|assumption|omega)[*])
   all_goals exact Ends.eqat rfl (by simp) (List.prefix_refl _)
  ·refine ac0 Tryz.func200 Tryz.ntmps200 ?_
   have hrs:Tryz.f200.results = #[.cell 4 226]:=rfl
   repeat' (first|(with_reducible first|refine uk ?_|refine wk ?_ ?_<;>intro _|refine andC ?_ ?_)|simp -implicitDefEqProofs(disch:=first|assumption|omega)[*])
   all_goals exact Ends.eqat rfl (by simp) (List.prefix_refl _)
end Go.Hb
end
