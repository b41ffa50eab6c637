/-
  A layer for reasoning about the program's calls, and contracts of its functions. CONDITIONS: none; each theorem bears its own.
-/
import Derived.Test.YtieoaonaijbijaaGreatG22
import Derived.Test.YtieoaonaijbijaaGreatG09
import Derived.Test.YtieoaonaijbijaaGreatG07
set_option linter.unusedVariables false
set_option linter.unusedSimpArgs false
section
namespace Go.Hb
open Go Go.Proofs Go.RowKit
set_option maxRecDepth 100000
set_option maxHeartbeats 800000
attribute [-simp] aC aL aOper aThen aInBlock aIf aPlan aAppend aLen aIndexAddr aSlice aCells aBounds lBr aq initT aev aAppendOwn aAppendNil aAppendNew aAppendRef LV.cells LV.cellsOk getElem?_pos getElem?_neg
def Small (x:Xs):Prop:=x.seen.length≤300∧x.woken.length≤300
theorem xsE_mid {p:Prog} (hp:MayP p) {x:Xs} (h:Inv p (-1) noD x.c) (hs:Small x) {c':Cor} (hth:c'.threads=x.c.threads):XsE 1000 {x with c:=c' }∧count2 c'<fu:=by
 have hc:count2 c'=count2 x.c:=by unfold count2;rw [hth]
 have h2:=h.c2 hp
 have hn:=h.nthr.2
 have ht:=hp.threads.2
 unfold fu at h2 ⊢
 refine⟨⟨by show c'.threads.length≤1000;rw [hth];omega,fun th hth'=>?_,?_,?_⟩,by omega⟩
 ·have hth':th∈c'.threads:=hth'
  rw [hth] at hth'
  obtain⟨k,hk,rfl⟩:=List.getElem_of_mem hth'
  have:=h.thr k hk
  rw [nth_eq hk] at this
  exact thrI_b hp this
 ·show x.seen.length+1+count2 c'≤1000
  have:=hs.1;omega
 ·show x.woken.length+count2 c'≤1000
  have:=hs.2;omega
theorem xsE_of {p:Prog} (hp:MayP p) {x:Xs} (h:Inv p (-1) noD x.c) (hs:Small x):XsE 1000 x∧count2 x.c<fu:=xsE_mid hp h hs rfl
theorem xsE_g {p:Prog} (hp:MayP p) {y:Xs} (h:Inv p (-1) noD y.c) (h1:y.seen.length≤900) (h2:y.woken.length≤900):XsE 1000 y∧count2 y.c<fu:=by
 have hc:=h.c2 hp
 have he:=(xsE_mid hp (x:={y with seen:=[],woken:=[] }) h ⟨by simp,by simp⟩ (c':=y.c) rfl).1
 unfold fu at hc ⊢
 exact⟨⟨he.n,he.thr,by omega,by omega⟩,hc⟩
theorem xendF_p {x:Xs} {t code:Int} (h0:0≤t) (h1:t<x.c.threads.length) (h:XsE 1000 x∧count2 x.c<fu):PureC Tryz.prog 246 [.agg x.lv,.int .i64 t,.int .i64 code] (.agg (endF x t code).lv):=xends_p fu 1000 x t code (by omega) h0 h1 h.2 h.1
theorem xtellF_p {x:Xs} {t:Int} {l:List Int} (h0:0≤t) (h1:t<x.c.threads.length) (h:XsE 1000 x∧count2 x.c<fu) (hl:l.length≤1000):PureC Tryz.prog 273 [.agg x.lv,.int .i64 t,row l] (.agg (tellF x t l).lv):=xtell_p (xends_p fu) (by omega) h0 h1 h.2 h.1 hl
theorem xwakeF_p {x:Xs} {t:Int} {l:List Int} (h1:t<x.c.threads.length) (h:XsE 1000 x∧count2 x.c<fu) (hw:x.woken.length+1+count2 x.c≤1000) (hl:l.length≤1000):PureC Tryz.prog 272 [.agg x.lv,.int .i64 t,row l] (.agg (wakeF x t l).lv):=xwake_p (xends_p fu) (by omega) h1 h.2 h.1 hw hl
theorem imm1_row {n:Nat} {cs:List LV} {r:Right} {l:List Int} (hc:cs=rowCs l) (hn:n=l.length):Weak (.imm 1 n cs r) (row l):=by subst hc;exact Weak.row (Weaks.refl _) hn
theorem spawn_p {p:Prog} (hp:MayP p) {x:Xs} (h:Run p x) (hs:Small x) {f:Int} (h0:0≤f) (h1:f<p.funcs.length):PureC Tryz.prog 247 [.agg x.lv,.int .i64 f] (.agg (spawnX x f).lv):=by
 refine .of fun s v=>?_
 obtain e:x.p=p:=h.p
 subst e
 have hE:=xsE_of hp h.inv hs
 have hs1:=hs.1
 have hs2:=hs.2
 have hn1:=h.inv.nthr.2
 have hn2:=hp.threads.2
 have hfc:=hp.code _ (at_in h0 h1)
 have hnew:=thrNew_p (fs:=x.p.funcs) (mu:=x.p.mutexes) (th:=x.p.threads) (co:=x.p.conds) (se:=x.p.semas) (ch:=x.p.chans) (cho:=x.p.choices) h0 h1 hfc.1 hfc.2.1
 unfold spawnX
 by_cases hth:x.p.threads≤x.c.threads.length
 ·rw [if_pos hth]
  have hse:=see_p (x:=x) (k:=1) (t:=x.t) (n:= -1) (by omega)
  have hE2:=xsE_g (y:=seeX x 1 x.t (-1)) hp h.inv (by show (x.seen++[_]).length≤900;simp;omega) (by show x.woken.length≤900;omega)
  have hte:=xtellF_p (x:=seeX x 1 x.t (-1)) (t:=x.t) (l:=[-1]) h.t.1 h.t.2 hE2 (by simp)
  have hw:Weak (.imm 1 1 [.int .i64 (-1)] .full) (row [(-1:Int)]):=imm1_row rfl rfl
  generalize hy:tellF (seeX x 1 x.t (-1)) x.t [-1]=z at *
  generalize hy2:seeX x 1 x.t (-1)=y at *
  simp only [Xs.lv'] at hse hte ⊢
  refine ac0 Tryz.func247 Tryz.ntmps247 ?_
  have hrs:Tryz.f247.results = #[.cell 4 226]:=rfl
  repeat' (first|(with_reducible first|refine uk ?_|refine wk ?_ ?_<;>intro _|(refine dr P247 mixed ?_ ?_ ?_;kernel_rfl;kernel_rfl)|refine andC ?_ ?_|refine callC hse (fun v1 hv1=>?_)|refine callWC hte (by simp [hw]) (fun v2 hv2=>?_))|simp -implicitDefEqProofs(disch:=first|assumption|omega)[*])
  all_goals exact Ends.eqat rfl (by simp) (hv1.trans hv2)
 ·rw [if_neg hth]
  have hth':¬ (x.p.threads≤(x.c.threads.length:Int)):=hth
  obtain⟨x1,v1,g1,_,ga⟩:=(GroE.nil v (α:=Thr)).appr (P:=Tryz.prog) (t:=27) (t2:=27) (by_:=72) (by kernel_rfl) (by omega) x.c.threads (by simp;omega)
  obtain⟨x2,v2,g2,_,gb⟩:=g1.push (P:=Tryz.prog) (t:=27) (t2:=27) (sz:=5) (by_:=72) (by kernel_rfl) rfl (by omega) (thrNew x.p f) (by simp;omega)
  obtain⟨x3,v3,g3,_,gc⟩:=(GroE.nil v2 (α:=Int)).appr (P:=Tryz.prog) (t:=23) (t2:=23) (by_:=8) (by kernel_rfl) (by omega) x.woken (by simp;omega)
  obtain⟨x4,v4,g4,_,gd⟩:=g3.push (P:=Tryz.prog) (t:=23) (t2:=23) (sz:=1) (by_:=8) (by kernel_rfl) rfl (by omega) (x.c.threads.length:Int) (by simp;omega)
  have hx2:Run x.p (seeX {x with c:={x.c with threads:=x.c.threads++[thrNew x.p f] },woken:=x.woken++[(x.c.threads.length:Int)] } 1 x.t x.c.threads.length)∧Inv x.p (-1) noD {x.c with threads:=x.c.threads++[thrNew x.p f] }:=spawn_run hp h h0 h1 hth
  have hse:=see_p (x:={x with c:={x.c with threads:=x.c.threads++[thrNew x.p f] },woken:=x.woken++[(x.c.threads.length:Int)] }) (k:=1) (t:=x.t) (n:=x.c.threads.length) (by show x.seen.length≤_;omega)
  have hE2:=xsE_g hp hx2.1.inv (by show (x.seen++[_]).length≤900;simp;omega) (by show (x.woken++[_]).length≤900;simp;omega)
  have hte:=xtellF_p (l:=[(x.c.threads.length:Int)]) hx2.1.t.1 hx2.1.t.2 hE2 (by simp)
  have hw:Weak (.imm 1 1 [.int .i64 (x.c.threads.length:Int)] .full) (row [(x.c.threads.length:Int)]):=imm1_row rfl rfl
  clear hx2 hE2 hE hfc
  generalize hy2:seeX {x with c:={x.c with threads:=x.c.threads++[thrNew x.p f] },woken:=x.woken++[(x.c.threads.length:Int)] } 1 x.t x.c.threads.length=y at *
  have hyt:y.t=x.t:=by rw [← hy2];rfl
  rw [hyt] at hte
  clear hyt
  generalize tellF y x.t [(x.c.threads.length:Int)]=z at *
  have c1:=g1.gro.cells
  have c2:=g2.gro.cells
  have c3:=g3.gro.cells
  have c4:=g4.gro.cells
  have w2:=g2.gro.weak
  have w4:=g4.gro.weak
  simp only [List.nil_append] at w2 w4
  simp only [enc_int,enc_thr] at gb gd
  have hpre:=g2.1.trans g4.1
  simp only [Xs.lv'] at hse hte ⊢
  simp only [Thr.lv,Prog.lv] at hnew
  clear hy2
  refine ac0 Tryz.func247 Tryz.ntmps247 ?_
  have hrs:Tryz.f247.results = #[.cell 4 226]:=rfl
  repeat' (first|(with_reducible first|refine uk ?_|refine wk ?_ ?_<;>intro _|(refine dr P247 mixed ?_ ?_ ?_;kernel_rfl;kernel_rfl)|refine andC ?_ ?_|refine callE hnew ?_|refine callWC hse (by simp [w2,w4]) (fun v5 hv5=>?_)|refine callWC hte (by simp [hw]) (fun v6 hv6=>?_))|simp -implicitDefEqProofs(disch:=first|assumption|omega)[*])
  all_goals exact Ends.eqat rfl (by simp) (hpre.trans (hv5.trans hv6))
theorem join_p {p:Prog} (hp:MayP p) {x:Xs} (h:Run p x) (hs:Small x) (j:Int):PureC Tryz.prog 249 [.agg x.lv,.int .i64 j] (.agg (joinX x j).lv):=by
 refine .of fun s v=>?_
 have hE:=xsE_of hp h.inv hs
 have hn1:=h.inv.nthr.2
 have hn2:=hp.threads.2
 unfold joinX
 by_cases h1:j<0∨(x.c.threads.length:Int)≤j∨j=x.t
 ·rw [if_pos h1]
  have he:=xendF_p (code:=5) h.t.1 h.t.2 hE
  generalize endF x x.t 5=z at *
  simp only [Xs.lv'] at he ⊢
  by_cases h2:j<0
  ·refine ac0 Tryz.func249 Tryz.ntmps249 ?_
   have hrs:Tryz.f249.results = #[.cell 4 226]:=rfl
   repeat' (first|(with_reducible first|refine uk ?_|refine wk ?_ ?_<;>intro _|(refine dr P249 mixed ?_ ?_ ?_;kernel_rfl;kernel_rfl)|refine andC ?_ ?_|refine callC he (fun v2 hv2=>?_))|simp -implicitDefEqProofs(disch:=first|assumption|omega)[*])
   all_goals exact Ends.eqat rfl (by simp) hv2
  ·by_cases h3:(x.c.threads.length:Int)≤j
   ·refine ac0 Tryz.func249 Tryz.ntmps249 ?_
    have hrs:Tryz.f249.results = #[.cell 4 226]:=rfl
    repeat' (first|(with_reducible first|refine uk ?_|refine wk ?_ ?_<;>intro _|(refine dr P249 mixed ?_ ?_ ?_;kernel_rfl;kernel_rfl)|refine andC ?_ ?_|refine callC he (fun v2 hv2=>?_))|simp -implicitDefEqProofs(disch:=first|assumption|omega)[*])
    all_goals exact Ends.eqat rfl (by simp) hv2
   ·have h4:j=x.t:=by omega
    subst h4
    clear h1
    refine ac0 Tryz.func249 Tryz.ntmps249 ?_
    have hrs:Tryz.f249.results = #[.cell 4 226]:=rfl
    repeat' (first|(with_reducible first|refine uk ?_|refine wk ?_ ?_<;>intro _|(refine dr P249 mixed ?_ ?_ ?_;kernel_rfl;kernel_rfl)|refine andC ?_ ?_|refine callC he (fun v2 hv2=>?_))|simp -implicitDefEqProofs(disch:=first|assumption|omega)[*])
    all_goals exact Ends.eqat rfl (by simp) hv2
 ·rw [if_neg h1]
  have q1:¬ j<0:=by omega
  have q2:¬ (x.c.threads.length:Int)≤j:=by omega
  have q3:¬ j=x.t:=by omega
  have hx:=ix_in (l:=x.c.threads) (i:=j) (by omega) (by omega)
  by_cases h9:(at' x.c.threads j).state=9
  ·rw [if_pos h9]
   unfold at' at h9 ⊢
   have hte:=xtellF_p (l:=[(nth x.c.threads j.toNat).code]) h.t.1 h.t.2 hE (by simp)
   have hw:Weak (.imm 1 1 [.int .i64 (nth x.c.threads j.toNat).code] .full) (row [(nth x.c.threads j.toNat).code]):=imm1_row rfl rfl
   generalize tellF x x.t [(nth x.c.threads j.toNat).code]=z at *
   simp only [Xs.lv'] at hte ⊢
   clear h1
   refine ac0 Tryz.func249 Tryz.ntmps249 ?_
   have hrs:Tryz.f249.results = #[.cell 4 226]:=rfl
   repeat' (first|(with_reducible first|refine uk ?_|refine wk ?_ ?_<;>intro _|(refine dr P249 mixed ?_ ?_ ?_;kernel_rfl;kernel_rfl)|refine andC ?_ ?_|refine callWC hte (by simp [hw]) (fun v2 hv2=>?_))|simp -implicitDefEqProofs(disch:=first|assumption|omega)[*])
   all_goals exact Ends.eqat rfl (by simp) hv2
  ·rw [if_neg h9]
   have hr:=rest_p (x:=x) (t:=x.t) (st:=2) (on:=j) (by omega) h.t.1 h.t.2
   generalize restX x x.t 2 j=z at *
   simp only [Xs.lv'] at hr ⊢
   unfold at' at h9
   clear h1
   refine ac0 Tryz.func249 Tryz.ntmps249 ?_
   have hrs:Tryz.f249.results = #[.cell 4 226]:=rfl
   repeat' (first|(with_reducible first|refine uk ?_|refine wk ?_ ?_<;>intro _|(refine dr P249 mixed ?_ ?_ ?_;kernel_rfl;kernel_rfl)|refine andC ?_ ?_|refine callC hr (fun v2 hv2=>?_))|simp -implicitDefEqProofs(disch:=first|assumption|omega)[*])
   all_goals exact Ends.eqat rfl (by simp) hv2
theorem semas_p {p:Prog} (hp:MayP p) {x:Xs} (h:Run p x) (hs:Small x) {kind a:Int} (h0:0≤a) (h1:a<p.semas.length):PureC Tryz.prog 251 [.agg x.lv,.int .i64 kind,.int .i64 a] (.agg (semaX x kind a).lv):=by
 refine .of fun s v=>?_
 have hl:=h.inv.len
 have hb:=h.inv.corB hp
 have hn1:=h.inv.nthr.2
 have hn2:=hp.threads.2
 have hc:=h.inv.things.counts a.toNat (by rw [hl.counts];omega)
 unfold semaX
 by_cases hk:kind=11
 ·rw [if_pos hk]
  have hd:=down_p (t:=x.t) hb h0 (by rw [hl.counts];exact h1) (by rw [hl.downq];exact h1) hc
  have hth:(downC x.c a x.t).1.threads=x.c.threads:=by unfold downC;split<;>rfl
  generalize downC x.c a x.t=r at *
  obtain⟨c1,is⟩:=r
  simp only at hth
  simp only [Cor.lv] at hd
  cases is
  ·simp only [Bool.false_eq_true,if_false]
   have hr:=rest_p (x:={x with c:=c1 }) (t:=x.t) (st:=5) (on:=a) (by show c1.threads.length≤_;rw [hth];omega) h.t.1 (by show x.t<(c1.threads.length:Int);rw [hth];exact h.t.2)
   generalize restX {x with c:=c1 } x.t 5 a=z at *
   simp only [Xs.lv'] at hr ⊢
   clear hth
   refine ac0 Tryz.func251 Tryz.ntmps251 ?_
   have hrs:Tryz.f251.results = #[.cell 6 226]:=rfl
   repeat' (first|(with_reducible first|refine uk ?_|refine wk ?_ ?_<;>intro _|refine andC ?_ ?_|refine callC hd (fun v1 hv1=>?_)|refine callC hr (fun v2 hv2=>?_))|simp -implicitDefEqProofs(disch:=first|assumption|omega)[*])
   all_goals exact Ends.eqat rfl (by simp) (hv1.trans hv2)
  ·simp only [if_true,Xs.lv']
   refine ac0 Tryz.func251 Tryz.ntmps251 ?_
   have hrs:Tryz.f251.results = #[.cell 6 226]:=rfl
   repeat' (first|(with_reducible first|refine uk ?_|refine wk ?_ ?_<;>intro _|refine andC ?_ ?_|refine callC hd (fun v1 hv1=>?_))|simp -implicitDefEqProofs(disch:=first|assumption|omega)[*])
   all_goals exact Ends.eqat rfl (by simp) hv1
 ·rw [if_neg hk]
  have hu:=up_p hb h0 (by rw [hl.counts];exact h1) (by rw [hl.downq];exact h1) hc
  have hth:(upC x.c a).1.threads=x.c.threads:=by unfold upC;split<;>(try split)<;>rfl
  have hti:(upC x.c a).2<(x.c.threads.length:Int):=by
   unfold upC
   split
   ·split<;>(simp only;omega)
   ·rename_i hq
    have:=h.inv.mem 5 a.toNat (nth (at' x.c.downq a) 0) (by show _∈nth x.c.downq a.toNat;exact nth_mem (by unfold at' at hq;omega))
    exact this.2
  have hE:=xsE_mid hp h.inv hs hth
  have hs2:=hs.2
  generalize upC x.c a=r at *
  obtain⟨c1,t⟩:=r
  simp only at hth hti hE
  have hwk:=xwakeF_p (x:={x with c:=c1 }) (t:=t) (l:=[]) (by show t<(c1.threads.length:Int);rw [hth];exact hti) hE (by show x.woken.length+1+count2 c1≤1000;have:=hE.2;unfold fu at this;omega) (by simp)
  have hw:Weak .nils (row ([]:List Int)):=Weak.nilrow
  generalize wakeF {x with c:=c1 } t []=z at *
  simp only [Cor.lv] at hu
  simp only [Xs.lv'] at hwk ⊢
  clear hth hE
  refine ac0 Tryz.func251 Tryz.ntmps251 ?_
  have hrs:Tryz.f251.results = #[.cell 6 226]:=rfl
  repeat' (first|(with_reducible first|refine uk ?_|refine wk ?_ ?_<;>intro _|refine andC ?_ ?_|refine callC hu (fun v1 hv1=>?_)|refine callWC hwk (by simp [hw]) (fun v2 hv2=>?_))|simp -implicitDefEqProofs(disch:=first|assumption|omega)[*])
  all_goals exact Ends.eqat rfl (by simp) (hv1.trans hv2)
theorem mutexA_p {p:Prog} (hp:MayP p) {x:Xs} (h:Run p x) (hs:Small x) {a:Int} (h0:0≤a) (h1:a<p.mutexes):PureC Tryz.prog 250 [.agg x.lv,.int .i64 6,.int .i64 a] (.agg (mutexX x 6 a).lv):=by
 refine .of fun s v=>?_
 have hl:=h.inv.len
 have hb:=h.inv.corB hp
 have hn1:=h.inv.nthr.2
 have hn2:=hp.threads.2
 unfold mutexX
 rw [if_pos rfl]
 have hd:=lock_p (t:=x.t) hb h0 (by rw [hl.owners];omega) (by rw [hl.lockq];omega)
 have hth:(lockC x.c a x.t).1.threads=x.c.threads:=by unfold lockC;split<;>rfl
 generalize lockC x.c a x.t=r at *
 obtain⟨c1,is⟩:=r
 simp only at hth
 simp only [Cor.lv] at hd
 cases is
 ·simp only [Bool.false_eq_true,if_false]
  have hr:=rest_p (x:={x with c:=c1 }) (t:=x.t) (st:=3) (on:=a) (by show c1.threads.length≤_;rw [hth];omega) h.t.1 (by show x.t<(c1.threads.length:Int);rw [hth];exact h.t.2)
  generalize restX {x with c:=c1 } x.t 3 a=z at *
  simp only [Xs.lv'] at hr ⊢
  clear hth
  refine ac0 Tryz.func250 Tryz.ntmps250 ?_
  have hrs:Tryz.f250.results = #[.cell 6 226]:=rfl
  repeat' (first|(with_reducible first|refine uk ?_|refine wk ?_ ?_<;>intro _|(refine dr P250 mixed ?_ ?_ ?_;kernel_rfl;kernel_rfl)|refine andC ?_ ?_|refine callC hd (fun v1 hv1=>?_)|refine callC hr (fun v2 hv2=>?_))|simp -implicitDefEqProofs(disch:=first|assumption|omega)[*])
  all_goals exact Ends.eqat rfl (by simp) (hv1.trans hv2)
 ·simp only [if_true,Xs.lv']
  refine ac0 Tryz.func250 Tryz.ntmps250 ?_
  have hrs:Tryz.f250.results = #[.cell 6 226]:=rfl
  repeat' (first|(with_reducible first|refine uk ?_|refine wk ?_ ?_<;>intro _|(refine dr P250 mixed ?_ ?_ ?_;kernel_rfl;kernel_rfl)|refine andC ?_ ?_|refine callC hd (fun v1 hv1=>?_))|simp -implicitDefEqProofs(disch:=first|assumption|omega)[*])
  all_goals exact Ends.eqat rfl (by simp) hv1
theorem unlock_th (c:Cor) (m t:Int):(unlockC c m t).1.threads=c.threads:=by unfold unlockC;split<;>(try split)<;>rfl
theorem unlock_lt {p:Prog} {c:Cor} (h:Inv p (-1) noD c) (m t:Int):(unlockC c m t).2.1<(c.threads.length:Int):=by
 have hn:=h.nthr.1
 unfold unlockC
 split
 ·show (-1:Int)<_;omega
 ·split
  ·rename_i hq
   have:=h.mem 3 m.toNat (nth (at' c.lockq m) 0) (by show _∈nth c.lockq m.toNat;exact nth_mem hq)
   exact this.2
  ·show (-1:Int)<_;omega
theorem mutexB_p {p:Prog} (hp:MayP p) {x:Xs} (h:Run p x) (hs:Small x) {a:Int} (h0:0≤a) (h1:a<p.mutexes):PureC Tryz.prog 250 [.agg x.lv,.int .i64 7,.int .i64 a] (.agg (mutexX x 7 a).lv):=by
 refine .of fun s v=>?_
 have hl:=h.inv.len
 have hb:=h.inv.corB hp
 have hn1:=h.inv.nthr.2
 have hn2:=hp.threads.2
 unfold mutexX
 rw [if_neg (by omega),if_pos rfl]
 have hd:=unlock_p (t:=x.t) hb h0 (by rw [hl.owners];omega) (by rw [hl.lockq];omega)
 have hth:=unlock_th x.c a x.t
 have hti:=unlock_lt h.inv a x.t
 have hE:=xsE_mid hp h.inv hs hth
 have hE0:=xsE_of hp h.inv hs
 have hs2:=hs.2
 have hec:(unlockC x.c a x.t).2.2=0∨(unlockC x.c a x.t).2.2=10:=by unfold unlockC;split<;>(try split)<;>simp
 generalize unlockC x.c a x.t=r at *
 obtain⟨c1,t,e⟩:=r
 simp only at hth hti hE hec
 simp only [Cor.lv] at hd
 by_cases he:e=0
 ·subst he
  rw [if_pos rfl]
  have hwk:=xwakeF_p (x:={x with c:=c1 }) (t:=t) (l:=[]) (by show t<(c1.threads.length:Int);rw [hth];exact hti) hE (by show x.woken.length+1+count2 c1≤1000;have:=hE.2;unfold fu at this;omega) (by simp)
  have hw:Weak .nils (row ([]:List Int)):=Weak.nilrow
  generalize wakeF {x with c:=c1 } t []=z at *
  simp only [Xs.lv'] at hwk ⊢
  clear hth hE hE0
  refine ac0 Tryz.func250 Tryz.ntmps250 ?_
  have hrs:Tryz.f250.results = #[.cell 6 226]:=rfl
  repeat' (first|(with_reducible first|refine uk ?_|refine wk ?_ ?_<;>intro _|(refine dr P250 mixed ?_ ?_ ?_;kernel_rfl;kernel_rfl)|refine andC ?_ ?_|refine callC hd (fun v1 hv1=>?_)|refine callWC hwk (by simp [hw]) (fun v2 hv2=>?_))|simp -implicitDefEqProofs(disch:=first|assumption|omega)[*])
  all_goals exact Ends.eqat rfl (by simp) (hv1.trans hv2)
 ·have he:e=10:=hec.resolve_left he
  subst he
  rw [if_neg (by omega)]
  have hen:=xendF_p (code:=4) h.t.1 h.t.2 hE0
  generalize endF x x.t 4=z at *
  simp only [Xs.lv'] at hen ⊢
  clear hth hE hE0
  refine ac0 Tryz.func250 Tryz.ntmps250 ?_
  have hrs:Tryz.f250.results = #[.cell 6 226]:=rfl
  repeat' (first|(with_reducible first|refine uk ?_|refine wk ?_ ?_<;>intro _|(refine dr P250 mixed ?_ ?_ ?_;kernel_rfl;kernel_rfl)|refine andC ?_ ?_|refine callC hd (fun v1 hv1=>?_)|refine callC hen (fun v2 hv2=>?_))|simp -implicitDefEqProofs(disch:=first|assumption|omega)[*])
  all_goals exact Ends.eqat rfl (by simp) (hv1.trans hv2)
theorem mutexC_p {p:Prog} (hp:MayP p) {x:Xs} (h:Run p x) (hs:Small x) {a:Int} (h0:0≤a) (h1:a<p.conds.length):PureC Tryz.prog 250 [.agg x.lv,.int .i64 8,.int .i64 a] (.agg (mutexX x 8 a).lv):=by
 refine .of fun s v=>?_
 have hl:=h.inv.len
 have hb:=h.inv.corB hp
 have hn1:=h.inv.nthr.2
 have hn2:=hp.threads.2
 obtain e:x.p=p:=h.p
 subst e
 have hm:=hp.conds.2 _ (at_in h0 h1)
 have hxm:=ix_in h0 h1
 unfold mutexX
 rw [if_neg (by omega),if_neg (by omega),if_pos rfl]
 unfold at' at hm ⊢
 have hd:=wait_p (t:=x.t) hb hm.1 (by rw [hl.owners];omega) (by rw [hl.lockq];omega) h0 (by rw [hl.waitq];exact h1)
 have hth:(waitC x.c a (nth x.p.conds a.toNat) x.t).1.threads=x.c.threads:=by unfold waitC;split<;>first|rfl|exact unlock_th _ _ _
 have hti:(waitC x.c a (nth x.p.conds a.toNat) x.t).2.1<(x.c.threads.length:Int):=by unfold waitC;split<;>exact unlock_lt h.inv _ _
 have hE:=xsE_mid hp h.inv hs hth
 have hE0:=xsE_of hp h.inv hs
 have hs2:=hs.2
 have hec:(waitC x.c a (nth x.p.conds a.toNat) x.t).2.2=0∨(waitC x.c a (nth x.p.conds a.toNat) x.t).2.2=10:=by
  have:∀ m,(unlockC x.c m x.t).2.2=0∨(unlockC x.c m x.t).2.2=10:=fun m=>by unfold unlockC;split<;>(try split)<;>simp
  unfold waitC;split<;>exact this _
 generalize waitC x.c a (nth x.p.conds a.toNat) x.t=r at *
 obtain⟨c1,t,e⟩:=r
 simp only at hth hti hE hec
 simp only [Cor.lv] at hd
 by_cases he:e=0
 ·subst he
  rw [if_pos rfl]
  have hwk:=xwakeF_p (x:={x with c:=c1 }) (t:=t) (l:=[]) (by show t<(c1.threads.length:Int);rw [hth];exact hti) hE (by show x.woken.length+1+count2 c1≤1000;have:=hE.2;unfold fu at this;omega) (by simp)
  have hw:Weak .nils (row ([]:List Int)):=Weak.nilrow
  have hy:(wakeF {x with c:=c1 } t []).t=x.t∧(wakeF {x with c:=c1 } t []).c.threads.length=x.c.threads.length:=by
   by_cases ht:t<0
   ·rw [wakeF_no _ ht];exact⟨rfl,by rw [← hth]⟩
   ·rw [wakeF_nil _ (by omega) (by show t<(c1.threads.length:Int);rw [hth];exact hti)]
    refine⟨rfl,?_⟩
    show (c1.threads.set _ _).length=_
    rw [List.length_set,hth]
  generalize wakeF {x with c:=c1 } t []=y at *
  have hr:=rest_p (x:=y) (t:=x.t) (st:=4) (on:=a) (by rw [hy.2];omega) h.t.1 (by rw [hy.2];exact h.t.2)
  generalize restX y x.t 4 a=z at *
  simp only [Xs.lv'] at hwk hr ⊢
  clear hth hE hE0 hy
  refine ac0 Tryz.func250 Tryz.ntmps250 ?_
  have hrs:Tryz.f250.results = #[.cell 6 226]:=rfl
  repeat' (first|(with_reducible first|refine uk ?_|refine wk ?_ ?_<;>intro _|(refine dr P250 mixed ?_ ?_ ?_;kernel_rfl;kernel_rfl)|refine andC ?_ ?_|refine callC hd (fun v1 hv1=>?_)|refine callWC hwk (by simp [hw]) (fun v2 hv2=>?_)|refine callC hr (fun v3 hv3=>?_))|simp -implicitDefEqProofs(disch:=first|assumption|omega)[*])
  all_goals exact Ends.eqat rfl (by simp) (hv1.trans (hv2.trans hv3))
 ·have he:e=10:=hec.resolve_left he
  subst he
  rw [if_neg (by omega)]
  have hen:=xendF_p (code:=4) h.t.1 h.t.2 hE0
  generalize endF x x.t 4=z at *
  simp only [Xs.lv'] at hen ⊢
  clear hth hE hE0
  refine ac0 Tryz.func250 Tryz.ntmps250 ?_
  have hrs:Tryz.f250.results = #[.cell 6 226]:=rfl
  repeat' (first|(with_reducible first|refine uk ?_|refine wk ?_ ?_<;>intro _|(refine dr P250 mixed ?_ ?_ ?_;kernel_rfl;kernel_rfl)|refine andC ?_ ?_|refine callC hd (fun v1 hv1=>?_)|refine callC hen (fun v2 hv2=>?_))|simp -implicitDefEqProofs(disch:=first|assumption|omega)[*])
  all_goals exact Ends.eqat rfl (by simp) (hv1.trans hv2)
structure SigI (p:Prog) (kind m a:Int) (x y:Xs):Prop where
 inv:Inv p (-1) noD y.c
 p:y.p=x.p
 seen:y.seen=x.seen
 woken:y.woken.length+(at' y.c.waitq a).length≤x.woken.length+(at' x.c.waitq a).length
 sig:sigX kind m a (at' y.c.waitq a).length y=sigX kind m a (at' x.c.waitq a).length x
theorem sigStep_len {p:Prog} (hp:MayP p) {y:Xs} (h:Inv p (-1) noD y.c) {a m:Int} (h0:0≤a) (h1:a<p.conds.length) (hm0:0≤m) (hm1:m<p.mutexes) (hq:(at' y.c.waitq a).length≠0) :
  (at' (sigStep m a y).c.waitq a).length=(at' y.c.waitq a).length - 1∧(sigStep m a y).p=y.p∧(sigStep m a y).seen=y.seen∧(sigStep m a y).woken.length≤y.woken.length+1:=by
 have hr:=sigStep_r hp h h0 h1 hm0 hm1 hq
 have hlt:a.toNat<y.c.waitq.length:=by rw [h.len.waitq];omega
 refine⟨?_,hr.1.p,?_⟩
 ·unfold at'
  rw [hr.2,nth_set hlt,List.length_drop];rfl
 ·have hin:=h.mem 4 a.toNat (nth (at' y.c.waitq a) 0) (by show _∈nth y.c.waitq a.toNat;exact nth_mem (by unfold at' at hq;omega))
  unfold sigStep signalC
  rw [if_neg hq]
  simp only
  unfold lockC
  split
  ·simp only [Bool.false_eq_true,if_false]
   exact⟨rfl,by show y.woken.length≤_;omega⟩
  ·simp only [if_true]
   rw [wakeF_nil {y with c:={y.c with waitq:=y.c.waitq.set a.toNat ((at' y.c.waitq a).drop 1),owners:=y.c.owners.set m.toNat (nth (at' y.c.waitq a) 0) } } hin.1 hin.2]
   refine⟨rfl,?_⟩
   show (y.woken++[_]).length≤_
   simp
theorem mutexD_p {p:Prog} (hp:MayP p) {x:Xs} (h:Run p x) (hs:Small x) {kind a:Int} (hk:kind=9∨kind=10) (h0:0≤a) (h1:a<p.conds.length):PureC Tryz.prog 250 [.agg x.lv,.int .i64 kind,.int .i64 a] (.agg (mutexX x kind a).lv):=by
 refine .of fun s v=>?_
 have hn1:=h.inv.nthr.2
 have hn2:=hp.threads.2
 obtain e:x.p=p:=h.p
 subst e
 have hm:=hp.conds.2 _ (at_in h0 h1)
 have hxm:=ix_in h0 h1
 have k6:¬ kind=6:=by omega
 have k7:¬ kind=7:=by omega
 have k8:¬ kind=8:=by omega
 unfold mutexX
 rw [if_neg k6,if_neg k7,if_neg k8]
 have hw0:(at' x.c.waitq a).length≤32:=by
  have h4:=h.inv.cnt_le (r:=4) (k:=a.toNat) (by simp [nRows];omega)
  have e4:rowOf x.c 4 a.toNat=at' x.c.waitq a:=rfl
  rw [e4] at h4
  have:=hp.threads.2
  omega
 have hs1:=hs.1
 have hs2:=hs.2
 have hI0:SigI x.p kind (at' x.p.conds a) a x x:=⟨h.inv,rfl,rfl,Nat.le_refl _,rfl⟩
 have hm':at' x.p.conds a=nth x.p.conds a.toNat:=rfl
 generalize hfin:sigX kind (at' x.p.conds a) a (at' x.c.waitq a).length x=fin at *
 rw [hm'] at hm hI0 hfin
 generalize hmm:nth x.p.conds a.toNat=m at *
 simp only [Xs.lv']
 refine ac0 Tryz.func250 Tryz.ntmps250 ?_
 have hrs:Tryz.f250.results = #[.cell 6 226]:=rfl
 repeat' (first|(with_reducible first|refine uk ?_|refine wk ?_ ?_<;>intro _|(refine dr P250 mixed ?_ ?_ ?_;kernel_rfl;kernel_rfl))|simp -implicitDefEqProofs(disch:=first|assumption|omega)[*])
 refine aW_fall (β:=Xs × List AObj × List Nat) false (fun q=>SigI x.p kind m a x q.1∧v <+: q.2.2) (fun q=>(at' q.1.c.waitq a).length) (fun q=>[(97,.any),(98,.any),(99,.any),(100,.any),(101,.any),(102,.any),(103,.any),(104,.any),(106,.any),(107,.any),(108,.any),(109,.any),(110,.any),(105,.any),(111,.any),(112,.any),(113,.any),(16,.any),(17,.any),(18,.any),(114,.any),(115,.any),(116,.any),(117,.any),(118,.any),(119,.any),(120,.any),(121,.any),(122,.any),(123,.any),(124,.any),(125,.any)]) (fun q=>s++(.cells q.1.lv :: .cells Z20 :: q.2.1)) (fun q=>q.2.2) ?_ ?_
 ·exact⟨(x,[],v),⟨hI0,List.prefix_refl _⟩,fz0,rfl,rfl⟩
 rintro ⟨y,J,v1⟩ ⟨hI,hv1⟩
 simp only at hI hv1
 have hl:=hI.inv.len
 have hxw:=ix_in (l:=y.c.waitq) (i:=a) h0 (by rw [hl.waitq];exact h1)
 have hwq:=hI.woken
 have hny:=hI.inv.nthr.2
 have hb:=hI.inv.corB hp
 have hsig:=hI.sig
 have hseen:=hI.seen
 by_cases hq:(at' y.c.waitq a).length=0
 ·rw [hq] at hsig
  have hye:y=fin:=hsig.trans hfin
  subst hye
  clear hI hI0 hfin hsig hseen
  unfold at' at hq
  have hq2:¬ 0<(nth y.c.waitq a.toNat).length:=by omega
  clear hwq hw0 hq
  simp only [Xs.lv',Z20]
  repeat' (first|(with_reducible first|refine uk ?_|refine wk ?_ ?_<;>intro _|(refine dr P250 mixed ?_ ?_ ?_;kernel_rfl;kernel_rfl))|simp -implicitDefEqProofs(disch:=first|assumption|omega)[*])
  all_goals exact Ends.eqat rfl (by simp) hv1
 ·have hst:=sigStep_len hp hI.inv h0 h1 hm.1 hm.2 hq
  have hsr:=(sigStep_r hp hI.inv h0 h1 hm.1 hm.2 hq).1
  have hI2:kind≠9→SigI x.p kind m a x (sigStep m a y):=fun hk9=>by
   refine⟨hsr.inv,hsr.p.trans hI.p,hst.2.2.1.trans hseen,by rw [hst.1];have:=hst.2.2.2;omega,?_⟩
   rw [hst.1,← hsig]
   obtain⟨j,hj⟩:∃ j,(at' y.c.waitq a).length=j+1:=⟨(at' y.c.waitq a).length - 1,by omega⟩
   rw [hj]
   show _=(if (at' y.c.waitq a).length=0 then y else if kind=9 then sigStep m a y else sigX kind m a j (sigStep m a y))
   rw [if_neg hq,if_neg hk9]
   rfl
  have hI3:kind=9→sigStep m a y=fin:=fun hk9=>by
   rw [← hfin,← hsig]
   obtain⟨j,hj⟩:∃ j,(at' y.c.waitq a).length=j+1:=⟨(at' y.c.waitq a).length - 1,by omega⟩
   rw [hj]
   show _=(if (at' y.c.waitq a).length=0 then y else if kind=9 then sigStep m a y else sigX kind m a j (sigStep m a y))
   rw [if_neg hq,if_pos hk9]
  have hd:=signal_p hb hm.1 (by rw [hl.owners];omega) (by rw [hl.lockq];omega) h0 (by rw [hl.waitq];exact h1)
  have hth:(signalC y.c a m).1.threads=y.c.threads:=by unfold signalC lockC;split<;>(try rfl);split<;>rfl
  have hti:0≤(signalC y.c a m).2.1∧(signalC y.c a m).2.1<(y.c.threads.length:Int):=by
   unfold signalC
   rw [if_neg hq]
   exact hI.inv.mem 4 a.toNat (nth (at' y.c.waitq a) 0) (by show _∈nth y.c.waitq a.toNat;exact nth_mem (by unfold at' at hq;omega))
  have hse:y.seen.length≤300:=by rw [hseen];exact hs1
  have hE:XsE 1000 {y with c:=(signalC y.c a m).1 }∧count2 (signalC y.c a m).1<fu:=by
   have h1:=xsE_mid hp (x:={y with woken:=[] }) hI.inv ⟨hse,by simp⟩ hth
   have h2:=h1.2
   unfold fu at h2
   exact⟨⟨h1.1.n,h1.1.thr,h1.1.seen,by show y.woken.length+count2 (signalC y.c a m).1≤1000;omega⟩,h1.2⟩
  have hlen2:(at' (sigStep m a y).c.waitq a).length<(at' y.c.waitq a).length:=by rw [hst.1];omega
  have hq2:0<(nth y.c.waitq a.toNat).length:=by unfold at' at hq;omega
  have hstep:sigStep m a y=if (signalC y.c a m).2.2=true then wakeF {y with c:=(signalC y.c a m).1 } (signalC y.c a m).2.1 [] else restX {y with c:=(signalC y.c a m).1 } (signalC y.c a m).2.1 3 m:=rfl
  have hwo:y.woken.length≤332:=by omega
  clear hI0 hfin hsig hsr hst hI hwq hseen hw0 hq
  generalize signalC y.c a m=r at *
  obtain⟨c1,t,is⟩:=r
  simp only at hth hti hE hstep
  simp only [Cor.lv] at hd
  have hw:Weak .nils (row ([]:List Int)):=Weak.nilrow
  have hwk:=xwakeF_p (x:={y with c:=c1 }) (t:=t) (l:=[]) (by show t<(c1.threads.length:Int);rw [hth];exact hti.2) hE (by show y.woken.length+1+count2 c1≤1000;have:=hE.2;unfold fu at this;omega) (by simp)
  have hr:=rest_p (x:={y with c:=c1 }) (t:=t) (st:=3) (on:=m) (by show c1.threads.length≤_;rw [hth];omega) hti.1 (by show t<(c1.threads.length:Int);rw [hth];exact hti.2)
  cases is
  ·simp only [Bool.false_eq_true,if_false] at hstep
   rw [← hstep] at hr
   clear hwk hE hth hb hl hstep hxm
   generalize sigStep m a y=z at *
   by_cases hk9:kind=9
   ·have hz:=hI3 hk9
    subst hz
    subst hk9
    clear hI2 hI3
    simp only [Xs.lv'] at hr ⊢
    simp only [Z20]
    repeat' (first|(with_reducible first|refine uk ?_|refine wk ?_ ?_<;>intro _|(refine dr P250 mixed ?_ ?_ ?_;kernel_rfl;kernel_rfl)|refine andC ?_ ?_|refine callC hd (fun v2 hv2=>?_)|refine callC hr (fun v3 hv3=>?_))|simp -implicitDefEqProofs(disch:=first|assumption|omega)[*])
    all_goals exact Ends.eqat rfl (by simp) (hv1.trans (hv2.trans hv3))
   ·have hI2:=hI2 hk9
    clear hI3
    simp only [Xs.lv'] at hr ⊢
    repeat' (first|(with_reducible first|refine uk ?_|refine wk ?_ ?_<;>intro _|(refine dr P250 mixed ?_ ?_ ?_;kernel_rfl;kernel_rfl)|refine andC ?_ ?_|refine callC hd (fun v2 hv2=>?_)|refine callC hr (fun v3 hv3=>?_))|simp -implicitDefEqProofs(disch:=first|assumption|omega)[*])
    all_goals exact⟨(z,J++[.cells [.int .i64 c1.now,row c1.threads,row c1.owners,row c1.counts,row c1.bufs,row c1.lockq,row c1.waitq,row c1.downq,row c1.sendq,row c1.recvq]],v3),hlen2,⟨hI2,hv1.trans (hv2.trans hv3)⟩,fz,by simp,rfl⟩
  ·simp only [if_true] at hstep
   rw [← hstep] at hwk
   clear hr hE hth hb hl hstep hxm
   generalize sigStep m a y=z at *
   by_cases hk9:kind=9
   ·have hz:=hI3 hk9
    subst hz
    subst hk9
    clear hI2 hI3
    simp only [Xs.lv'] at hwk ⊢
    simp only [Z20]
    repeat' (first|(with_reducible first|refine uk ?_|refine wk ?_ ?_<;>intro _|(refine dr P250 mixed ?_ ?_ ?_;kernel_rfl;kernel_rfl)|refine andC ?_ ?_|refine callC hd (fun v2 hv2=>?_)|refine callWC hwk (by simp [hw]) (fun v3 hv3=>?_))|simp -implicitDefEqProofs(disch:=first|assumption|omega)[*])
    all_goals exact Ends.eqat rfl (by simp) (hv1.trans (hv2.trans hv3))
   ·have hI2:=hI2 hk9
    clear hI3
    simp only [Xs.lv'] at hwk ⊢
    repeat' (first|(with_reducible first|refine uk ?_|refine wk ?_ ?_<;>intro _|(refine dr P250 mixed ?_ ?_ ?_;kernel_rfl;kernel_rfl)|refine andC ?_ ?_|refine callC hd (fun v2 hv2=>?_)|refine callWC hwk (by simp [hw]) (fun v3 hv3=>?_))|simp -implicitDefEqProofs(disch:=first|assumption|omega)[*])
    all_goals exact⟨(z,J++[.cells [.int .i64 c1.now,row c1.threads,row c1.owners,row c1.counts,row c1.bufs,row c1.lockq,row c1.waitq,row c1.downq,row c1.sendq,row c1.recvq]],v3),hlen2,⟨hI2,hv1.trans (hv2.trans hv3)⟩,fz,by simp,rfl⟩
theorem mutexes_p {p:Prog} (hp:MayP p) {x:Xs} (h:Run p x) (hs:Small x) {q:Req} (hq:ReqI p q) (hk:q.kind=6∨q.kind=7∨q.kind=8∨q.kind=9∨q.kind=10):PureC Tryz.prog 250 [.agg x.lv,.int .i64 q.kind,.int .i64 q.a] (.agg (mutexX x q.kind q.a).lv):=by
 by_cases h6:q.kind=6
 ·rw [h6];have:=hq.mutex (.inl h6);exact mutexA_p hp h hs this.1 this.2
 by_cases h7:q.kind=7
 ·rw [h7];have:=hq.mutex (.inr h7);exact mutexB_p hp h hs this.1 this.2
 have hc:=hq.cond (by omega)
 by_cases h8:q.kind=8
 ·rw [h8];exact mutexC_p hp h hs hc.1 hc.2
 exact mutexD_p hp h hs (by omega) hc.1 hc.2
end Go.Hb
end
