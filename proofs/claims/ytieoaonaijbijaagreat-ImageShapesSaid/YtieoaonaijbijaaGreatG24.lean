/-
  A layer for reasoning about the program's calls, and contracts of its functions. CONDITIONS: none; each theorem bears its own.
-/
import Derived.Test.YtieoaonaijbijaaGreatG23
set_option linter.unusedVariables false
set_option linter.unusedSimpArgs false
section
namespace Go.Hb
open Go Go.Proofs Go.RowKit
set_option maxRecDepth 100000
set_option maxHeartbeats 800000
attribute [-simp] aC aL xq yp zE aIf yr zR aLen zt ya zQ zP lBr aq yP aev zk zw zF zI LV.cells LV.cellsOk getElem?_pos getElem?_neg
theorem zks {x:Xs}{a w:Int}(h0:0≤x.t)(h1:x.t<x.c.threads.length)(h:XsE 1000 x∧zz x.c<fu):zG Tryz.prog 200 [.agg x.lv,.agg [.int .i64 1,.int .i64 a,.int .i64 w]] (.agg (endF x x.t w).lv):=by
 refine .of fun s v=>?_
 have he:=YI (code:=w) h0 h1 h
 generalize endF x x.t w=z at *
 simp only[Xs.lv'] at he ⊢
 refine ac0 Tryz.func200 Tryz.ntmps200 ?_
 have hrs:Tryz.f200.results = #[.cell 4 226]:=rfl
 repeat' (first|(with_reducible first|refine uk ?_|refine wk ?_ ?_<;>intro _|refine andC ?_ ?_|refine zg he (fun v2 hv2=>?_))|simp -implicitDefEqProofs(disch:=first|assumption|omega)[*])
 all_goals exact Ends.eqat rfl (by simp) hv2
theorem zlH {p:Prog}(hp:MayP p){x:Xs}(h:Run p x)(hs:Small x){q:Req}(hq:ReqI p q):zG Tryz.prog 200 [.agg x.lv,.agg [.int .i64 q.kind,.int .i64 q.a,.int .i64 q.v]] (.agg (Qh x q).lv):=by
 have hk:=hq.kind
 have hn1:=h.inv.nthr.2
 have hn2:=hp.threads.2
 unfold Qh
 rw[if_neg hk.2.2]
 by_cases h3:q.kind=3
 ·refine .of fun s v=>?_
  have hc:=hq.spawn h3
  have hd:=zka hp h hs hc.1 hc.2
  rw[if_pos h3]
  generalize JU x q.a=z at *
  clear hn1 hn2
  obtain⟨kind,a,w⟩:=q
  simp only at h3 hd;subst h3
  simp only[Xs.lv'] at hd ⊢
  refine ac0 Tryz.func200 Tryz.ntmps200 ?_
  have hrs:Tryz.f200.results = #[.cell 4 226]:=rfl
  repeat' (first|(with_reducible first|refine uk ?_|refine wk ?_ ?_<;>intro _|refine andC ?_ ?_|refine zg hd (fun v2 hv2=>?_))|simp -implicitDefEqProofs(disch:=first|assumption|omega)[*])
  all_goals exact Ends.eqat rfl (by simp) hv2
 rw[if_neg h3]
 by_cases h4:q.kind=4
 ·refine .of fun s v=>?_
  rw[if_pos h4]
  have hv:=hq.v
  have hnow:=h.inv.now
  have hkp:=ZQ (x.c.now+q.v)
  obtain⟨kind,a,w⟩:=q
  simp only at h4 hv hkp ⊢;subst h4
  by_cases hlt:x.c.now<keep (x.c.now+w)
  ·rw[if_pos hlt]
   have hd:=Qn (x:=x) (t:=x.t) (st:=1) (on:=keep (x.c.now+w)) (by omega) h.t.1 h.t.2
   generalize yj x x.t 1 (keep (x.c.now+w))=z at *
   generalize keep (x.c.now+w)=on at *
   simp only[Xs.lv'] at hd ⊢
   refine ac0 Tryz.func200 Tryz.ntmps200 ?_
   have hrs:Tryz.f200.results = #[.cell 4 226]:=rfl
   repeat' (first|(with_reducible first|refine uk ?_|refine wk ?_ ?_<;>intro _|refine andC ?_ ?_|refine zc hkp ?_|refine zg hd (fun v2 hv2=>?_))|simp -implicitDefEqProofs(disch:=first|assumption|omega)[*])
   all_goals exact Ends.eqat rfl (by simp) hv2
  ·rw[if_neg hlt]
   generalize keep (x.c.now+w)=on at *
   simp only[Xs.lv']
   refine ac0 Tryz.func200 Tryz.ntmps200 ?_
   have hrs:Tryz.f200.results = #[.cell 4 226]:=rfl
   repeat' (first|(with_reducible first|refine uk ?_|refine wk ?_ ?_<;>intro _|refine andC ?_ ?_|refine zc hkp ?_)|simp -implicitDefEqProofs(disch:=first|assumption|omega)[*])
   all_goals exact Ends.eqat rfl (by simp) (List.prefix_refl _)
 rw[if_neg h4]
 by_cases h5:q.kind=5
 ·refine .of fun s v=>?_
  have hd:=zlW hp h hs q.v
  rw[if_pos h5]
  generalize zaT x q.v=z at *
  clear hn1 hn2
  obtain⟨kind,a,w⟩:=q
  simp only at h5 hd;subst h5
  simp only[Xs.lv'] at hd ⊢
  refine ac0 Tryz.func200 Tryz.ntmps200 ?_
  have hrs:Tryz.f200.results = #[.cell 4 226]:=rfl
  repeat' (first|(with_reducible first|refine uk ?_|refine wk ?_ ?_<;>intro _|refine andC ?_ ?_|refine zg hd (fun v2 hv2=>?_))|simp -implicitDefEqProofs(disch:=first|assumption|omega)[*])
  all_goals exact Ends.eqat rfl (by simp) hv2
 rw[if_neg h5]
 by_cases h6:q.kind=6∨q.kind=7∨q.kind=8∨q.kind=9∨q.kind=10
 ·refine .of fun s v=>?_
  have hd:=zfU hp h hs hq h6
  rw[if_pos h6]
  generalize vf x q.kind q.a=z at *
  clear hn1 hn2 hk hq h3 h4 h5
  obtain⟨kind,a,w⟩:=q
  simp only at h6 hd ⊢
  simp only[Xs.lv'] at hd ⊢
  rcases h6 with h6 | h6 | h6 | h6 | h6
  all_goals subst h6
  ·refine ac0 Tryz.func200 Tryz.ntmps200 ?_
   have hrs:Tryz.f200.results = #[.cell 4 226]:=rfl
   repeat' (first|(with_reducible first|refine uk ?_|refine wk ?_ ?_<;>intro _|refine andC ?_ ?_|refine zg hd (fun v2 hv2=>?_))|simp -implicitDefEqProofs(disch:=first|assumption|omega)[*])
   all_goals exact Ends.eqat rfl (by simp) hv2
  ·refine ac0 Tryz.func200 Tryz.ntmps200 ?_
   have hrs:Tryz.f200.results = #[.cell 4 226]:=rfl
   repeat' (first|(with_reducible first|refine uk ?_|refine wk ?_ ?_<;>intro _|refine andC ?_ ?_|refine zg hd (fun v2 hv2=>?_))|simp -implicitDefEqProofs(disch:=first|assumption|omega)[*])
   all_goals exact Ends.eqat rfl (by simp) hv2
  ·refine ac0 Tryz.func200 Tryz.ntmps200 ?_
   have hrs:Tryz.f200.results = #[.cell 4 226]:=rfl
   repeat' (first|(with_reducible first|refine uk ?_|refine wk ?_ ?_<;>intro _|refine andC ?_ ?_|refine zg hd (fun v2 hv2=>?_))|simp -implicitDefEqProofs(disch:=first|assumption|omega)[*])
   all_goals exact Ends.eqat rfl (by simp) hv2
  ·refine ac0 Tryz.func200 Tryz.ntmps200 ?_
   have hrs:Tryz.f200.results = #[.cell 4 226]:=rfl
   repeat' (first|(with_reducible first|refine uk ?_|refine wk ?_ ?_<;>intro _|refine andC ?_ ?_|refine zg hd (fun v2 hv2=>?_))|simp -implicitDefEqProofs(disch:=first|assumption|omega)[*])
   all_goals exact Ends.eqat rfl (by simp) hv2
  ·refine ac0 Tryz.func200 Tryz.ntmps200 ?_
   have hrs:Tryz.f200.results = #[.cell 4 226]:=rfl
   repeat' (first|(with_reducible first|refine uk ?_|refine wk ?_ ?_<;>intro _|refine andC ?_ ?_|refine zg hd (fun v2 hv2=>?_))|simp -implicitDefEqProofs(disch:=first|assumption|omega)[*])
   all_goals exact Ends.eqat rfl (by simp) hv2
 rw[if_neg h6]
 by_cases h11:q.kind=11∨q.kind=12
 ·refine .of fun s v=>?_
  have hc:=hq.sema h11
  have hd:=zjt hp h hs (kind:=q.kind) hc.1 hc.2
  rw[if_pos h11]
  generalize zbC x q.kind q.a=z at *
  clear hn1 hn2 hk hq h3 h4 h5 h6
  obtain⟨kind,a,w⟩:=q
  simp only at h11 hd ⊢
  simp only[Xs.lv'] at hd ⊢
  rcases h11 with h6 | h6
  all_goals subst h6
  ·refine ac0 Tryz.func200 Tryz.ntmps200 ?_
   have hrs:Tryz.f200.results = #[.cell 4 226]:=rfl
   repeat' (first|(with_reducible first|refine uk ?_|refine wk ?_ ?_<;>intro _|refine andC ?_ ?_|refine zg hd (fun v2 hv2=>?_))|simp -implicitDefEqProofs(disch:=first|assumption|omega)[*])
   all_goals exact Ends.eqat rfl (by simp) hv2
  ·refine ac0 Tryz.func200 Tryz.ntmps200 ?_
   have hrs:Tryz.f200.results = #[.cell 4 226]:=rfl
   repeat' (first|(with_reducible first|refine uk ?_|refine wk ?_ ?_<;>intro _|refine andC ?_ ?_|refine zg hd (fun v2 hv2=>?_))|simp -implicitDefEqProofs(disch:=first|assumption|omega)[*])
   all_goals exact Ends.eqat rfl (by simp) hv2
 rw[if_neg h11]
 by_cases h13:q.kind=13∨q.kind=14∨q.kind=15
 ·refine .of fun s v=>?_
  have hd:zG Tryz.prog 252 [.agg x.lv,.agg [.int .i64 q.kind,.int .i64 q.a,.int .i64 q.v]] (.agg (Qf x q).lv):=by
   rcases h13 with h13 | h13 | h13
   ·have:=hq.chan (.inl h13);exact zje hp h hs h13 this.1 this.2
   ·have:=hq.chan (.inr h13);exact zjH hp h hs h13 this.1 this.2
   ·have:=hq.choice h13;exact zkn hp h hs h13 this.1 this.2
  rw[if_pos h13]
  generalize Qf x q=z at *
  clear hn1 hn2 hk hq h3 h4 h5 h6 h11
  obtain⟨kind,a,w⟩:=q
  simp only at h13 hd ⊢
  simp only[Xs.lv'] at hd ⊢
  rcases h13 with h6 | h6 | h6
  all_goals subst h6
  ·refine ac0 Tryz.func200 Tryz.ntmps200 ?_
   have hrs:Tryz.f200.results = #[.cell 4 226]:=rfl
   repeat' (first|(with_reducible first|refine uk ?_|refine wk ?_ ?_<;>intro _|refine andC ?_ ?_|refine zg hd (fun v2 hv2=>?_))|simp -implicitDefEqProofs(disch:=first|assumption|omega)[*])
   all_goals exact Ends.eqat rfl (by simp) hv2
  ·refine ac0 Tryz.func200 Tryz.ntmps200 ?_
   have hrs:Tryz.f200.results = #[.cell 4 226]:=rfl
   repeat' (first|(with_reducible first|refine uk ?_|refine wk ?_ ?_<;>intro _|refine andC ?_ ?_|refine zg hd (fun v2 hv2=>?_))|simp -implicitDefEqProofs(disch:=first|assumption|omega)[*])
   all_goals exact Ends.eqat rfl (by simp) hv2
  ·refine ac0 Tryz.func200 Tryz.ntmps200 ?_
   have hrs:Tryz.f200.results = #[.cell 4 226]:=rfl
   repeat' (first|(with_reducible first|refine uk ?_|refine wk ?_ ?_<;>intro _|refine andC ?_ ?_|refine zg hd (fun v2 hv2=>?_))|simp -implicitDefEqProofs(disch:=first|assumption|omega)[*])
   all_goals exact Ends.eqat rfl (by simp) hv2
 rw[if_neg h13]
 by_cases h16:q.kind=16
 ·refine .of fun s v=>?_
  rw[if_pos h16]
  have hd:=zgo (x:=x) (k:=0) (t:=x.t) (n:=q.v) (by have:=hs.1;omega)
  generalize seeX x 0 x.t q.v=z at *
  obtain⟨kind,a,w⟩:=q
  simp only at h16 hd ⊢;subst h16
  simp only[Xs.lv'] at hd ⊢
  refine ac0 Tryz.func200 Tryz.ntmps200 ?_
  have hrs:Tryz.f200.results = #[.cell 4 226]:=rfl
  repeat' (first|(with_reducible first|refine uk ?_|refine wk ?_ ?_<;>intro _|refine andC ?_ ?_|refine zg hd (fun v2 hv2=>?_))|simp -implicitDefEqProofs(disch:=first|assumption|omega)[*])
  all_goals exact Ends.eqat rfl (by simp) hv2
 ·refine .of fun s v=>?_
  rw[if_neg h16]
  have h02:q.kind=0∨q.kind=2:=by omega
  clear hk hq h3 h4 h5 h6 h11 h13 h16
  obtain⟨kind,a,w⟩:=q
  simp only at h02 ⊢
  simp only[Xs.lv']
  rcases h02 with h6 | h6
  all_goals subst h6
  ·refine ac0 Tryz.func200 Tryz.ntmps200 ?_
   have hrs:Tryz.f200.results = #[.cell 4 226]:=rfl
   repeat' (first|(with_reducible first|refine uk ?_|refine wk ?_ ?_<;>intro _|refine andC ?_ ?_)|simp -implicitDefEqProofs(disch:=first|assumption|omega)[*])
   all_goals exact Ends.eqat rfl (by simp) (List.prefix_refl _)
  ·refine ac0 Tryz.func200 Tryz.ntmps200 ?_
   have hrs:Tryz.f200.results = #[.cell 4 226]:=rfl
   repeat' (first|(with_reducible first|refine uk ?_|refine wk ?_ ?_<;>intro _|refine andC ?_ ?_)|simp -implicitDefEqProofs(disch:=first|assumption|omega)[*])
   all_goals exact Ends.eqat rfl (by simp) (List.prefix_refl _)
theorem zfu {f:Int→Bool}{l:List Int}{j:Nat}(h:j<l.length):(l.take (j+1)).filter f=if f (nth l j)=true then (l.take j).filter f++[nth l j] else (l.take j).filter f:=by
 rw[za h,List.filter_append]
 by_cases e:f (nth l j)=true
 ·rw[if_pos e];simp[e]
 ·rw[if_neg e];simp[e]
theorem ziT {p:Prog}(hp:MayP p){t:Thr}(h:ThrI p t)(hs:t.state≠9):zG Tryz.prog 199 [.agg [row p.funcs,.int .i64 p.mutexes,row p.conds,row p.semas,row p.chans,row p.choices,.int .i64 p.threads],.agg t.lv] (.tup [.agg (xU p t).1.lv,.agg (xU p t).2.lv]):=by
 have hfr:=(h.live hs).1
 have htop:=h.frs _ (Xj hfr)
 have hfm:=hp.code _ (uh htop.1.1 htop.1.2)
 refine zhF p t (zfb hp h) h.sks hfr htop.1.1 htop.1.2 ⟨htop.2.1.1,by have:=htop.2.1.2;omega⟩ hfm.2.2.1 fun i hi=>?_
 have hpc:(topF t).pc<(at' p.funcs (topF t).func).code.length:=by
  unfold wb at hi
  split at hi
  ·cases hi
  ·omega
 have hii:i=at' (at' p.funcs (topF t).func).code (topF t).pc:=by
  unfold wb at hi
  rw[if_neg (by omega)] at hi
  cases hi;rfl
 have hmay:mayI p (at' p.funcs (topF t).func) i=true:=by rw[hii];exact hfm.2.2.2 _ (uh htop.2.1.1 hpc)
 have hl:=htop.2.2.1
 refine⟨fun ho=>?_,fun ho=>?_⟩
 ·have:=uX hmay (by rcases ho with ho | ho<;>rw[ho]<;>rfl) (by omega)
  rcases ho with ho | ho
  all_goals
   rw[ho] at this
   simp[most,vZ] at this
   omega
 ·have:=uX hmay (by rw[ho];rfl) (by omega)
  rw[ho] at this
  simp[most,vZ] at this
  have hc:=hp.code _ (uh this.1 this.2)
  exact⟨this.1,this.2,hc.1,hc.2.1⟩
def Bd (y:Xs):Prop:=y.seen.length≤1000∧y.woken.length≤1000
theorem Xr {x:Xs}{t code:Int}(h0:0≤t)(h1:t<x.c.threads.length)(h:XsE 1000 x∧zz x.c<fu):Bd (endF x t code):=by
 have hk:=wP 1000 fu x t code h0 h1 h.2 h.1
 have:=hk.b.seen;have:=hk.b.woken
 exact⟨by show (endX fu x t code).seen.length≤1000;omega,by show (endX fu x t code).woken.length≤1000;omega⟩
theorem YX {x:Xs}{t:Int}{l:List Int}(h0:0≤t)(h1:t<x.c.threads.length)(h:XsE 1000 x∧zz x.c<fu):Bd (wJ x t l):=by
 have hk:=Qa (l:=l) (wP 1000 fu) h0 h1 h.2 h.1
 have:=hk.b.seen;have:=hk.b.woken
 exact⟨by show (wW fu x t l).seen.length≤1000;omega,by show (wW fu x t l).woken.length≤1000;omega⟩
theorem Ki {x:Xs}{t:Int}{l:List Int}(h1:t<x.c.threads.length)(h:XsE 1000 x∧zz x.c<fu)(hw:x.woken.length+1+zz x.c≤1000):Bd (yO x t l):=by
 have hk:=zcR (l:=l) (wP 1000 fu) h1 h.2 h.1 hw
 have:=hk.b.seen;have:=hk.b.woken
 exact⟨by show (vE fu x t l).seen.length≤1000;omega,by show (vE fu x t l).woken.length≤1000;omega⟩
theorem zij {p:Prog}(hp:MayP p)(kind:Int){a m:Int}(h0:0≤a)(h1:a<p.conds.length)(hm0:0≤m)(hm1:m<p.mutexes):∀ (n:Nat) {x:Xs},Inv p (-1) noD x.c→x.seen.length≤300→x.woken.length+n≤1000→Bd (sigX kind m a n x)
 | 0,x,_,hs,hw=>⟨by show x.seen.length≤_;omega,by show x.woken.length≤_;omega⟩
 | n+1,x,h,hs,hw=>by
  unfold sigX
  split
  ·exact⟨by omega,by omega⟩
  ·rename_i hq
   have h2:=QD hp h h0 h1 hm0 hm1 hq
   have h3:=Zb hp h h0 h1 hm0 hm1 hq
   split
   ·exact⟨by rw[h3.2.2.1];omega,by have:=h3.2.2.2;omega⟩
   ·exact zij hp kind h0 h1 hm0 hm1 n h2.1.inv (by rw[h3.2.2.1];exact hs) (by have:=h3.2.2.2;omega)
theorem ziR {p:Prog}(hp:MayP p){x:Xs}(h:Run p x)(hs:x.seen=[]∧x.woken=[]){q:Req}(hq:ReqI p q):Bd (Qh x q):=by
 obtain e:x.p=p:=h.p
 subst e
 have hsm:Small x:=⟨by rw[hs.1];simp,by rw[hs.2];simp⟩
 have hE:=Yj hp h.inv hsm
 have hn:=h.inv.nthr
 have h32:=hp.threads.2
 have hB:Bd x:=⟨by rw[hs.1];simp,by rw[hs.2];simp⟩
 have hwb:∀ {c':Cor},c'.threads=x.c.threads→x.woken.length+1+zz c'≤1000:=fun {c'} hth=>by
  have:=(xK hp h.inv hsm hth).2
  unfold fu at this
  rw[hs.2];simp;omega
 unfold Qh
 split
 ·exact Xr h.t.1 h.t.2 hE
 split
 ·unfold JU
  split
  ·exact YX h.t.1 h.t.2 (zhe (y:=seeX x 1 x.t (-1)) hp h.inv (by show (x.seen++[_]).length≤900;rw[hs.1];simp) (by show x.woken.length≤900;rw[hs.2];simp))
  ·rename_i h3 hlt
   have hc:=hq.spawn h3
   have hx2:=Jy hp h hc.1 hc.2 hlt
   exact YX hx2.1.t.1 hx2.1.t.2 (zhe hp hx2.1.inv (by show (x.seen++[_]).length≤900;rw[hs.1];simp) (by show (x.woken++[_]).length≤900;rw[hs.2];simp))
 split
 ·split
  ·exact hB
  ·exact hB
 split
 ·unfold zaT
  split
  ·exact Xr h.t.1 h.t.2 hE
  ·split
   ·exact YX h.t.1 h.t.2 hE
   ·exact hB
 split
 ·rename_i h6
  unfold vf
  split
  ·split
   ·exact hB
   ·exact hB
  split
  ·split
   ·have hth:=QJ x.c q.a x.t
    exact Ki (x:={x with c:=(zf x.c q.a x.t).1 }) (by show _<((zf x.c q.a x.t).1.threads.length:Int);rw[hth];exact QK h.inv _ _) (xK hp h.inv hsm hth) (hwb hth)
   ·exact Xr h.t.1 h.t.2 hE
  split
  ·split
   ·have hth:(xN x.c q.a (at' x.p.conds q.a) x.t).1.threads=x.c.threads:=by unfold xN;split<;>first|rfl|exact QJ _ _ _
    have hti:(xN x.c q.a (at' x.p.conds q.a) x.t).2.1<(x.c.threads.length:Int):=by unfold xN;split<;>exact QK h.inv _ _
    have:=Ki (x:={x with c:=(xN x.c q.a (at' x.p.conds q.a) x.t).1 }) (l:=[]) (by show _<((xN x.c q.a (at' x.p.conds q.a) x.t).1.threads.length:Int);rw[hth];exact hti) (xK hp h.inv hsm hth) (hwb hth)
    exact this
   ·exact Xr h.t.1 h.t.2 hE
  ·have hc:=hq.cond (by omega)
   have hm:=hp.conds.2 _ (uh hc.1 hc.2)
   have h4:=h.inv.cnt_le (r:=4) (k:=q.a.toNat) (by simp[yv];omega)
   have e4:zJ x.c 4 q.a.toNat=at' x.c.waitq q.a:=rfl
   rw[e4] at h4
   exact zij hp _ hc.1 hc.2 hm.1 hm.2 _ h.inv (by rw[hs.1];simp) (by rw[hs.2];simp;omega)
 split
 ·rename_i h11
  have hl:=h.inv.len
  have hc:=hq.sema h11
  unfold zbC
  split
  ·split
   ·exact hB
   ·exact hB
  ·have hth:(upC x.c q.a).1.threads=x.c.threads:=by unfold upC;split<;>(try split)<;>rfl
   have hti:(upC x.c q.a).2<(x.c.threads.length:Int):=by
    unfold upC
    split
    ·split<;>(simp only;omega)
    ·rename_i hq
     have:=h.inv.mem 5 q.a.toNat (nth (at' x.c.downq q.a) 0) (by show _∈nth x.c.downq q.a.toNat;exact zm (by unfold at' at hq;omega))
     exact this.2
   exact Ki (x:={x with c:=(upC x.c q.a).1 }) (by show _<((upC x.c q.a).1.threads.length:Int);rw[hth];exact hti) (xK hp h.inv hsm hth) (hwb hth)
 split
 ·rename_i h13
  have gotb:∀ {c':Cor} {s:Int} (l:List Int),c'.threads=x.c.threads→s<(x.c.threads.length:Int)→Bd (yO (wJ {x with c:=c' } x.t l) s []):=fun {c' s} l hth hlt=>by
   have ht1:x.t<(({x with c:=c' } : Xs).c.threads.length:Int):=by show x.t<(c'.threads.length:Int);rw[hth];exact h.t.2
   have hsm2:=Kw (x:={x with c:=c' }) (t:=x.t) (l:=l) h.t.1 ht1 (Yq hp h.inv hsm hth)
   exact Ki (by rw[hsm2.2.2];show s<(c'.threads.length:Int);rw[hth];exact hlt) hsm2.1 hsm2.2.1
  unfold Qf
  by_cases k13:q.kind=13
  ·rw[if_pos k13]
   have hth:(xM x.c q.a (at' x.p.chans q.a) x.t q.v).1.threads=x.c.threads:=by unfold xM;split<;>(try rfl);split<;>rfl
   have hlt:(xM x.c q.a (at' x.p.chans q.a) x.t q.v).2.1<(x.c.threads.length:Int):=by
    unfold xM
    split
    ·rename_i hq'
     exact(h.inv.mem 7 q.a.toNat _ (by show _∈nth x.c.recvq q.a.toNat;exact zm hq')).2
    ·split<;>(simp only;omega)
   have key:∀ l,Bd (yO {x with c:=(xM x.c q.a (at' x.p.chans q.a) x.t q.v).1 } (xM x.c q.a (at' x.p.chans q.a) x.t q.v).2.1 l):=fun l=>
    Ki (by show _<((xM x.c q.a (at' x.p.chans q.a) x.t q.v).1.threads.length:Int);rw[hth];exact hlt) (xK hp h.inv hsm hth) (hwb hth)
   simp only
   split
   ·exact hB
   split
   ·exact hB
   split
   ·exact key _
   ·exact key _
  rw[if_neg k13]
  by_cases k14:q.kind=14
  ·rw[if_pos k14]
   simp only
   split
   ·exact hB
   ·exact gotb _ (YM _ _ _) (Yl h.inv _ _)
  rw[if_neg k14]
  simp only
  split
  ·exact hB
  ·refine gotb _ ?_ ?_
   ·unfold yI
    split
    ·exact YM _ _ _
    ·rfl
   ·unfold yI
    split
    ·exact Yl h.inv _ _
    ·show (-1:Int)<_;omega
 split
 ·exact⟨by show (x.seen++[_]).length≤_;rw[hs.1];simp,hB.2⟩
 ·exact hB
theorem ZO {p:Prog}(hp:MayP p){c:Cor}(h:Inv p (-1) noD c){t:Int}(h0:0≤t)(h1:t<c.threads.length)(hs:(at' c.threads t).state=0) :
  zG Tryz.prog 200 [.agg (Xs.lv ⟨p,yd c t (xU p (at' c.threads t)).1,t,[],[]⟩),.agg (xU p (at' c.threads t)).2.lv] (.agg (uj p c t).lv)∧(uj p c t).seen.length≤1000∧(uj p c t).woken.length≤1000:=by
 have hth:=h.thr t.toNat (by omega)
 unfold uj
 have hsm:Small ⟨p,c,t,[],[]⟩:=⟨by simp,by simp⟩
 have hE:=Yj hp (x:=⟨p,c,t,[],[]⟩) h hsm
 rcases zcm hp hth (by show (at' c.threads t).state≠9;omega) with ⟨code,c0,c1,e⟩ | ⟨hg,hq⟩
 ·have e:xU p (at' c.threads t)=ends code:=e
  rw[e]
  have hm:Qh ⟨p,yd c t (zO code),t,[],[]⟩ ⟨1,0,code⟩=endF ⟨p,yd c t (zO code),t,[],[]⟩ t code:=by unfold Qh;rw[if_pos rfl]
  have hc2:=wQ (c:=c) (x:=zO code) h0 h1
  have hlen:(yd c t (zO code)).threads.length=c.threads.length:=by show (c.threads.set _ _).length=_;rw[List.length_set]
  have hst:¬ (zO code).state=2:=by simp[zO]
  rw[if_neg hst] at hc2
  have h2:=hE.2
  unfold fu at h2
  have h2:zz c<40:=h2
  have hE2:XsE 1000 ⟨p,yd c t (zO code),t,[],[]⟩∧zz (yd c t (zO code))<fu:=by
   unfold fu
   refine⟨⟨by show (yd c t (zO code)).threads.length≤1000;rw[hlen];exact hE.1.n,Kl hE.1.thr (Xu code),?_,?_⟩,by omega⟩
   ·show 0+1+zz (yd c t (zO code))≤1000;omega
   ·show 0+zz (yd c t (zO code))≤1000;omega
  have hk:=wP 1000 fu ⟨p,yd c t (zO code),t,[],[]⟩ t code h0 (by show t<((yd c t (zO code)).threads.length:Int);rw[hlen];exact h1) hE2.2 hE2.1
  show zG _ _ [_,.agg (Req.lv ⟨1,0,code⟩)] (.agg (Qh ⟨p,yd c t (zO code),t,[],[]⟩ ⟨1,0,code⟩).lv)∧(Qh ⟨p,yd c t (zO code),t,[],[]⟩ ⟨1,0,code⟩).seen.length≤1000∧(Qh ⟨p,yd c t (zO code),t,[],[]⟩ ⟨1,0,code⟩).woken.length≤1000
  rw[hm]
  refine⟨zks h0 (by show t<((yd c t (zO code)).threads.length:Int);rw[hlen];exact h1) hE2,?_,?_⟩
  ·have:=hk.b.seen;show (endX fu _ t code).seen.length≤1000;omega
  ·have:=hk.b.woken;show (endX fu _ t code).woken.length≤1000;omega
 ·have hr:=run1 h h0 h1 hs hg
  have hx:Qh ⟨p,yd c t (xU p (at' c.threads t)).1,t,[],[]⟩ (xU p (at' c.threads t)).2=Qh ⟨p,yd c t (xU p (nth c.threads t.toNat)).1,t,[],[]⟩ (xU p (nth c.threads t.toNat)).2:=rfl
  rw[hx]
  exact⟨zlH hp hr ⟨by simp,by simp⟩ hq,ziR hp hr ⟨rfl,rfl⟩ hq⟩
def Z10:List LV:=[.int .i64 0,.nils,.nils,.nils,.nils,.nils,.nils,.nils,.nils,.nils]
set_option maxHeartbeats 8000000 in
theorem zlT {p:Prog}(hp:MayP p){c:Cor}(h:Inv p (-1) noD c){t:Int}(h0:0≤t)(h1:t<c.threads.length)(hs:(at' c.threads t).state=0) :
  zG Tryz.prog 103 [.agg [row p.funcs,.int .i64 p.mutexes,row p.conds,row p.semas,row p.chans,row p.choices,.int .i64 p.threads],.agg [.int .i64 c.now,row c.threads,row c.owners,row c.counts,row c.bufs,row c.lockq,row c.waitq,row c.downq,row c.sendq,row c.recvq],.int .i64 t] (.tup [.agg (uj p c t).c.lv,row (uj p c t).seen,row (JA (uj p c t) t),.int .i64 0]):=by
 refine .of fun s v=>?_
 have hn1:=h.nthr.2
 have hn2:=hp.threads.2
 have hx:=zB h0 h1
 have hst:=ziT hp (h.thr t.toNat (by omega)) (by show (at' c.threads t).state≠9;omega)
 have hw:=zao (x:=(xU p (at' c.threads t)).1) (by omega) h0 h1
 have hm:=ZO hp h h0 h1 hs
 have hr:=zin hp h h0 h1 hs
 have hwk:=hr.woken
 have hb:=hm.2.2
 replace hm:=hm.1
 have hs':(nth c.threads t.toNat).state=0:=hs
 clear hr
 unfold JA
 generalize uj p c t=y at *
 have hat:at' c.threads t=nth c.threads t.toNat:=rfl
 rw[hat] at hw hm
 clear hat
 generalize xU p (nth c.threads t.toNat)=r at *
 obtain⟨th,q⟩:=r
 simp only at hst hw hm
 generalize yd c t th=c1 at *
 simp only[Xs.lv',Cor.lv,Thr.lv,Req.lv] at hst hw hm ⊢
 have hwr:Weak .nils (row ([]:List Evt)):=Weak.nilrow
 have hwi:Weak .nils (row ([]:List Int)):=Weak.nilrow
 clear hs
 generalize hW:(y.woken.filter fun k=>decide (k≠t∧(at' y.c.threads k).state=0))=W at *
 simp only[hs'] at hst
 have q1:¬ t<0:=by omega
 have q2:¬ (c.threads.length:Int)≤t:=by omega
 refine ac0 Tryz.func103 Tryz.ntmps103 ?_
 have hrs:Tryz.f103.results = #[.cell 6 29,.tmp 7,.tmp 8,.tmp 9]:=rfl
 apply zfZ (P:=Tryz.prog) (r:=none) (N:=87) (own:=false) (id:=0) (fun t' s' v'=>v <+: v'∧(∃ a3 a4,s'=s++[.cells [row p.funcs,.int .i64 p.mutexes,row p.conds,row p.semas,row p.chans,row p.choices,.int .i64 p.threads],.cells [.int .i64 c.now,row c.threads,row c.owners,row c.counts,row c.bufs,row c.lockq,row c.waitq,row c.downq,row c.sendq,row c.recvq],.cells Z10,a3,a4,.cells y.lv])∧t' 2 = .int .i64 t∧t' 6 = .ptr (s.length+2) 0∧t' 12 = .ptr (s.length+5) 0∧t' 13 = .nils∧t' 14 = .int .i64 0)
 ·intro key
  repeat' (first|(with_reducible first|refine uk ?_|refine wk ?_ ?_<;>intro _|(refine dr P103 mixed ?_ ?_ ?_;kernel_rfl;kernel_rfl)|refine And.intro ?_ ?_|refine zg hst (fun v1 hv1=>?_)|refine zc hw ?_|refine wg hm (by simp[hwr,hwi]) (fun v2 hv2=>?_))|simp -implicitDefEqProofs(disch:=first|assumption|omega)[*])
  all_goals exact key _ _ _ ⟨hv1.trans hv2,⟨_,_,rfl⟩,by simp[zh],by simp[zh],by simp[zh],by simp[zh],by simp[zh]⟩
 rintro t0 s0 v2 ⟨hv2,⟨a3,a4,rfl⟩,e2,e6,e12,e13,e14⟩
 simp only[Xs.lv',Z10]
 refine zjm (β:=LV × List Nat) false y.woken.length (fun k q=>GroE v2 q.2 ((y.woken.take k).filter fun k=>decide (k≠t∧(at' y.c.threads k).state=0)) q.1) (fun k q=>[(13,q.1),(14,.int .i64 k),(53,.any),(54,.any),(55,.any),(56,.any),(57,.any),(60,.any),(61,.any),(62,.any),(63,.any),(64,.any),(15,.any),(65,.any),(66,.any),(67,.any),(68,.any),(69,.any),(70,.any),(71,.any),(72,.any),(73,.any),(74,.any),(75,.any),(76,.any),(77,.any),(78,.any),(79,.any),(80,.any),(81,.any),(58,.any),(59,.any)]) (fun _ q=>q.2) ⟨(.nils,v2),GroE.nil _,by (refine Fits.of ?_ (Off.refl _ _);simp[zh,zu, *]),rfl⟩ ?_
 rintro k ⟨xk,v3⟩ hk hG
 simp only at hG
 by_cases hlt:k<y.woken.length
 ·have hin:=hwk _ (zm hlt)
  have hxk:=zB (l:=y.woken) (i:=(k:Int)) (by omega) (by omega)
  have hxt:=zB (l:=y.c.threads) hin.1 hin.2
  have hgc:=hG.gro.cells
  have hft:=zfu (f:=fun k=>decide (k≠t∧(at' y.c.threads k).state=0)) hlt
  by_cases hne:nth y.woken k=t
  ·have hf:(decide (nth y.woken k≠t∧(at' y.c.threads (nth y.woken k)).state=0))=false:=by simp[hne]
   rw[hf,if_neg (by simp)] at hft
   rw[← hft] at hG
   clear hf hft hst hw hm
   repeat' (first|(with_reducible first|refine uk ?_|refine wk ?_ ?_<;>intro _|(refine dr P103 mixed ?_ ?_ ?_;kernel_rfl;kernel_rfl)|refine And.intro ?_ ?_)|simp -implicitDefEqProofs(disch:=first|assumption|omega)[*])
   all_goals exact⟨hlt,(xk,v3),hG,fz,by simp,rfl⟩
  ·by_cases hz:(nth y.c.threads (nth y.woken k).toNat).state=0
   ·have hf:(decide (nth y.woken k≠t∧(at' y.c.threads (nth y.woken k)).state=0))=true:=by simp[hne,at',hz]
    rw[hf,if_pos rfl] at hft
    obtain⟨x2,v4,g2,_,gb⟩:=hG.push (P:=Tryz.prog) (t:=23) (t2:=23) (sz:=1) (by_:=8) (by kernel_rfl) rfl (by omega) (nth y.woken k) (by have:=List.length_filter_le (fun k=>decide (k≠t∧(at' y.c.threads k).state=0)) (y.woken.take k);simp at this ⊢;omega)
    rw[← hft] at g2
    simp only[yG] at gb
    clear hf hft hst hw hm
    repeat' (first|(with_reducible first|refine uk ?_|refine wk ?_ ?_<;>intro _|(refine dr P103 mixed ?_ ?_ ?_;kernel_rfl;kernel_rfl)|refine And.intro ?_ ?_)|simp -implicitDefEqProofs(disch:=first|assumption|omega)[*])
    all_goals exact⟨hlt,(x2,v4),g2,fz,by simp,rfl⟩
   ·have hf:(decide (nth y.woken k≠t∧(at' y.c.threads (nth y.woken k)).state=0))=false:=by simp[hne,at',hz]
    rw[hf,if_neg (by simp)] at hft
    rw[← hft] at hG
    clear hf hft hst hw hm
    repeat' (first|(with_reducible first|refine uk ?_|refine wk ?_ ?_<;>intro _|(refine dr P103 mixed ?_ ?_ ?_;kernel_rfl;kernel_rfl)|refine And.intro ?_ ?_)|simp -implicitDefEqProofs(disch:=first|assumption|omega)[*])
    all_goals exact⟨hlt,(xk,v3),hG,fz,by simp,rfl⟩
 ·have hke:k=y.woken.length:=by omega
  subst hke
  rw[List.take_of_length_le (Nat.le_refl _),hW] at hG
  clear hst hw hm hW
  have hgw:=hG.gro.weak
  have hgu:=hG.gro.under
  have hgc:=hG.gro.cells
  have hpre:=hv2.trans hG.1
  repeat' (first|(with_reducible first|refine uk ?_|refine wk ?_ ?_<;>intro _|(refine dr P103 mixed ?_ ?_ ?_;kernel_rfl;kernel_rfl)|refine And.intro ?_ ?_)|simp -implicitDefEqProofs(disch:=first|assumption|omega)[*])
  all_goals refine Ends.at (by simp[hgu]) ?_ hpre
  all_goals exact Weak.tup ⟨Weak.refl _,Weak.refl _,hgw,Weak.refl _,trivial⟩
def inK (c:Cor)(s:Int)(k:Nat):List Int:=((List.range k).filter fun (t:Nat)=>decide ((nth c.threads t).state=s)).map fun (t:Nat)=>(t:Int)
theorem zhq (c:Cor)(s:Int)(k:Nat):inK c s (k+1)=if (nth c.threads k).state=s then inK c s k++[(k:Int)] else inK c s k:=by
 unfold inK
 rw[List.range_succ,List.filter_append,List.map_append]
 by_cases h:(nth c.threads k).state=s
 ·rw[if_pos h];simp[h]
 ·rw[if_neg h];simp[h]
theorem zbp (c:Cor)(s:Int)(k:Nat):(inK c s k).length≤k:=by
 unfold inK
 rw[List.length_map]
 have:=List.length_filter_le (fun (t:Nat)=>decide ((nth c.threads t).state=s)) (List.range k)
 simpa using this
theorem YP {c:Cor}{s t:Int}(h:t∈inC c s):0≤t∧t<c.threads.length∧(at' c.threads t).state=s:=by
 unfold inC at h
 rw[List.mem_map] at h
 obtain⟨n,h1,rfl⟩:=h
 rw[List.mem_filter] at h1
 simp at h1
 exact⟨by omega,by omega,h1.2⟩
theorem in_p {c:Cor}(hn:c.threads.length≤1000)(st:Int):zG Tryz.prog 100 [.agg [.int .i64 c.now,row c.threads,row c.owners,row c.counts,row c.bufs,row c.lockq,row c.waitq,row c.downq,row c.sendq,row c.recvq],.int .i64 st] (row (inC c st)):=by
 refine xX.pure (xX.of fun s v=>?_)
 refine ac0 Tryz.func100 Tryz.ntmps100 ?_
 have hrs:Tryz.f100.results = #[.tmp 4]:=rfl
 repeat' (first|(with_reducible first|refine uk ?_|refine wk ?_ ?_<;>intro _)|simp -implicitDefEqProofs(disch:=first|assumption|omega)[*])
 refine zC (β:=LV × List Nat) false c.threads.length (fun k q=>GroE v q.2 (inK c st k) q.1) (fun k q=>[(5,q.1),(6,.int .i64 k),(7,.any),(8,.any),(9,.any),(10,.any),(11,.any),(14,.any),(15,.any),(16,.any),(17,.any),(18,.any),(19,.any),(20,.any),(21,.any),(22,.any),(23,.any),(24,.any),(25,.any),(12,.any),(13,.any)]) (fun _ _=>s++[.cells [.int .i64 c.now,row c.threads,row c.owners,row c.counts,row c.bufs,row c.lockq,row c.waitq,row c.downq,row c.sendq,row c.recvq]]) (fun _ q=>q.2) ?_ ?_
 ·exact⟨(.nils,v),GroE.nil _,fz0,rfl,rfl⟩
 rintro k ⟨x,v1⟩ hk hG
 simp only at hG
 have hlen:=zbp c st k
 have hgc:=hG.gro.cells
 have hsucc:=zhq c st k
 by_cases hlt:k<c.threads.length
 ·have hx:=zB (l:=c.threads) (i:=(k:Int)) (by omega) (by omega)
  by_cases hs:(nth c.threads k).state=st
  ·obtain⟨x2,v2,g2,_,gb⟩:=hG.push (P:=Tryz.prog) (t:=23) (t2:=23) (sz:=1) (by_:=8) (by kernel_rfl) rfl (by omega) (k:Int) (by omega)
   simp only[yG] at gb
   rw[if_pos hs] at hsucc
   rw[← hsucc] at g2
   clear hsucc
   repeat' (first|(with_reducible first|refine uk ?_|refine wk ?_ ?_<;>intro _)|simp -implicitDefEqProofs(disch:=first|assumption|omega)[*])
   exact⟨hlt,(x2,v2),g2,fz,by simp,rfl⟩
  ·rw[if_neg hs] at hsucc
   rw[← hsucc] at hG
   clear hsucc
   repeat' (first|(with_reducible first|refine uk ?_|refine wk ?_ ?_<;>intro _)|simp -implicitDefEqProofs(disch:=first|assumption|omega)[*])
   exact⟨hlt,(x,v1),hG,fz,by simp,rfl⟩
 ·have hke:k=c.threads.length:=by omega
  subst hke
  have hg:GroE v v1 (inC c st) x:=hG
  clear hsucc hG
  repeat' (first|(with_reducible first|refine uk ?_|refine wk ?_ ?_<;>intro _)|simp -implicitDefEqProofs(disch:=first|assumption|omega)[*])
  exact hg.gro
theorem zkX {c:Cor}(hn:c.threads.length≤1000):zG Tryz.prog 101 [.agg [.int .i64 c.now,row c.threads,row c.owners,row c.counts,row c.bufs,row c.lockq,row c.waitq,row c.downq,row c.sendq,row c.recvq]] (.tup [.int .i64 (KY c).1,.bool (KY c).2]):=by
 refine .of fun s v=>?_
 have hi:=in_p (c:=c) hn 1
 have hm:∀ t∈inC c 1,0≤t∧t<c.threads.length:=fun t ht=>⟨(YP ht).1,(YP ht).2.1⟩
 have hlb:(inC c 1).length≤1000:=Nat.le_trans (zbp c 1 c.threads.length) hn
 unfold KY
 generalize inC c 1=l at *
 refine ac0 Tryz.func101 Tryz.ntmps101 ?_
 have hrs:Tryz.f101.results = #[.tmp 2,.tmp 3]:=rfl
 repeat' (first|(with_reducible first|refine uk ?_|refine wk ?_ ?_<;>intro _|(refine dr P101 mixed ?_ ?_ ?_;kernel_rfl;kernel_rfl)|refine zg hi (fun v1 hv1=>?_))|simp -implicitDefEqProofs(disch:=first|assumption|omega)[*])
 refine zC (β:=Int) false l.length (fun k a=>(l.take k).foldl (vg c) (0,0)=(a,k)) (fun k a=>[(5,.int .i64 a),(6,.int .i64 k),(10,.any),(11,.any),(12,.any),(13,.any),(16,.any),(17,.any),(18,.any),(19,.any),(20,.any),(21,.any),(22,.any),(23,.any),(24,.any),(7,.any),(25,.any),(26,.any),(27,.any),(28,.any),(29,.any),(30,.any),(31,.any),(32,.any),(14,.any),(15,.any)]) (fun _ _=>s++[.cells [.int .i64 c.now,row c.threads,row c.owners,row c.counts,row c.bufs,row c.lockq,row c.waitq,row c.downq,row c.sendq,row c.recvq]]) (fun _ _=>v1) ?_ ?_
 ·exact⟨0,rfl,fz0,rfl,rfl⟩
 rintro k a hk hI
 replace hI:(l.take k).foldl (vg c) (0,0)=(a,k):=hI
 by_cases hlt:k<l.length
 ·have hin:=hm _ (zm hlt)
  have hx:=zB (l:=l) (i:=(k:Int)) (by omega) (by omega)
  have hxt:=zB (l:=c.threads) hin.1 hin.2
  have hstep:(l.take (k+1)).foldl (vg c) (0,0)=(if k=0∨(nth c.threads (nth l k).toNat).on<a then (nth c.threads (nth l k).toNat).on else a,k+1):=by
   rw[za hlt,List.foldl_append,hI];rfl
  clear hI
  by_cases h0:k=0
  ·rw[if_pos (.inl h0)] at hstep
   subst h0
   repeat' (first|(with_reducible first|refine uk ?_|refine wk ?_ ?_<;>intro _|(refine dr P101 mixed ?_ ?_ ?_;kernel_rfl;kernel_rfl))|simp -implicitDefEqProofs(disch:=first|assumption|omega)[*])
   exact⟨hlt,_,hstep,fz,by simp,rfl⟩
  ·by_cases h1:(nth c.threads (nth l k).toNat).on<a
   ·rw[if_pos (.inr h1)] at hstep
    repeat' (first|(with_reducible first|refine uk ?_|refine wk ?_ ?_<;>intro _|(refine dr P101 mixed ?_ ?_ ?_;kernel_rfl;kernel_rfl))|simp -implicitDefEqProofs(disch:=first|assumption|omega)[*])
    exact⟨hlt,_,hstep,fz,by simp,rfl⟩
   ·rw[if_neg (by omega)] at hstep
    repeat' (first|(with_reducible first|refine uk ?_|refine wk ?_ ?_<;>intro _|(refine dr P101 mixed ?_ ?_ ?_;kernel_rfl;kernel_rfl))|simp -implicitDefEqProofs(disch:=first|assumption|omega)[*])
    exact⟨hlt,_,hstep,fz,by simp,rfl⟩
 ·have hke:k=l.length:=by omega
  subst hke
  rw[List.take_of_length_le (Nat.le_refl _)] at hI
  rw[hI]
  repeat' (first|(with_reducible first|refine uk ?_|refine wk ?_ ?_<;>intro _|(refine dr P101 mixed ?_ ?_ ?_;kernel_rfl;kernel_rfl))|simp -implicitDefEqProofs(disch:=first|assumption|omega)[*])
  all_goals exact Ends.eqat (by simp) (by simp) hv1
end Go.Hb
end
