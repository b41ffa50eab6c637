/-
  A layer for reasoning about the program's calls, and contracts of its functions. CONDITIONS: none; each theorem bears its own.
-/
import Derived.Test.YtieoaonaijbijaaGreatG20
import Derived.Test.YtieoaonaijbijaaGreatG21
import Derived.Test.YtieoaonaijbijaaGreatG07
import Derived.Test.YtieoaonaijbijaaGreatG08
set_option linter.unusedVariables false
set_option linter.unusedSimpArgs false
section
namespace Go.Hb
open Go Go.Proofs Go.RowKit
set_option maxRecDepth 100000
set_option maxHeartbeats 800000
attribute [-simp] aC aL xq yp zE aIf yr zR aLen zt ya zQ zP lBr aq yP aev zk zw zF zI LV.cells LV.cellsOk getElem?_pos getElem?_neg
def EndC (n:Nat):Prop:=∀ B x t code,B≤10000→0≤t→t<(x.c.threads.length:Int)→zz x.c<n→XsE B x→zG Tryz.prog 246 [.agg x.lv,.int .i64 t,.int .i64 code] (.agg (endX n x t code).lv)
theorem zbk {n B:Nat}(hE:EndC n){x:Xs}{t:Int}{l:List Int}(hB:B≤10000)(h0:0≤t)(h1:t<x.c.threads.length)(hc:zz x.c<n)(h:XsE B x)(hl:l.length≤1000) :
  zG Tryz.prog 273 [.agg x.lv,.int .i64 t,row l] (.agg (wW n x t l).lv):=by
 refine .of fun s v=>?_
 have he:=hE B x t 2 hB h0 h1 hc h
 have ht:=zlg (at' x.c.threads t) (h.thr _ (zdQ h0 h1)) l hl
 have hx:=zB h0 h1
 have hn:=h.n
 have hw:=fun y=>zao (c:=x.c) (t:=t) (x:=y) hn h0 h1
 by_cases hok:(yi (at' x.c.threads t) l).2=true
 ·rw[show wW n x t l = {x with c:=yd x.c t (yi (at' x.c.threads t) l).1 } from by unfold wW;rw[if_pos hok]]
  rw[hok] at ht
  clear hok
  generalize (yi (at' x.c.threads t) l).1=y at *
  replace hw:=hw y
  generalize yd x.c t y=z at *
  clear he
  obtain⟨p,c,xt,seen,woken⟩:=x
  simp only[Xs.lv,Prog.lv,Cor.lv,Thr.lv,at',List.cons_append,List.nil_append] at ht hw hx ⊢
  refine ac0 Tryz.func273 Tryz.ntmps273 ?_
  have hrs:Tryz.f273.results = #[.cell 6 226]:=rfl
  repeat' (first|(with_reducible first|refine uk ?_|refine wk ?_ ?_<;>intro _|refine andC ?_ ?_|refine zg ht (fun v1 hv1=>?_)|refine zc hw ?_)|simp -implicitDefEqProofs(disch:=first|assumption|omega)[*])
  all_goals exact Ends.eqat rfl (by simp) hv1
 ·rw[show wW n x t l=endX n x t 2 from by unfold wW;rw[if_neg hok]]
  rw[Bool.eq_false_iff.2 hok] at ht
  clear hok hw
  generalize (yi (at' x.c.threads t) l).1=y at *
  generalize endX n x t 2=u at *
  obtain⟨p,c,xt,seen,woken⟩:=x
  simp only[Xs.lv,Prog.lv,Cor.lv,Thr.lv,at',List.cons_append,List.nil_append] at ht he hx ⊢
  refine ac0 Tryz.func273 Tryz.ntmps273 ?_
  have hrs:Tryz.f273.results = #[.cell 6 226]:=rfl
  repeat' (first|(with_reducible first|refine uk ?_|refine wk ?_ ?_<;>intro _|refine andC ?_ ?_|refine zg ht (fun v1 hv1=>?_)|refine zg he (fun v2 hv2=>?_))|simp -implicitDefEqProofs(disch:=first|assumption|omega)[*])
  all_goals exact Ends.eqat rfl (by simp) (hv1.trans hv2)
theorem wg {P:Program}{f:FuncId}{args args':List LV}{s:List AObj}{v:List Nat}{y:LV}{K:LV→List AObj→List Nat→Prop}(h:zG P f args' y)(hw:yh args args')(k:∀ v',v <+: v'→K y s v'):zp P f args s v K:=yJ hw (zg h k)
theorem zgw {x:Xs}{t:Int}{l:List Int}(h0:t<0):zG Tryz.prog 272 [.agg x.lv,.int .i64 t,row l] (.agg x.lv):=by
 refine .of fun s v=>?_
 obtain⟨p,c,xt,seen,woken⟩:=x
 simp only[Xs.lv,Prog.lv,Cor.lv,List.cons_append,List.nil_append]
 refine ac0 Tryz.func272 Tryz.ntmps272 ?_
 have hrs:Tryz.f272.results = #[.cell 6 226]:=rfl
 repeat' (first|(with_reducible first|refine uk ?_|refine wk ?_ ?_<;>intro _)|simp -implicitDefEqProofs(disch:=first|assumption|omega)[*])
 exact Ends.eqat rfl (by simp) (List.prefix_refl _)
theorem zcg {x u:Xs}{t:Int}{l:List Int}(hb:x.woken.length≤100000)(hn:x.c.threads.length≤1000)(h0:0≤t)(h1:t<x.c.threads.length)
  (ht:zG Tryz.prog 273 [.agg (yj {x with woken:=x.woken++[t] } t 0 0).lv,.int .i64 t,row l] (.agg u.lv)):zG Tryz.prog 272 [.agg x.lv,.int .i64 t,row l] (.agg u.lv):=by
 refine .of fun s v=>?_
 have hr:=Qn (x:={x with woken:=x.woken++[t] }) (t:=t) (st:=0) (on:=0) hn h0 h1
 generalize yj {x with woken:=x.woken++[t] } t 0 0=z at *
 obtain⟨p,c,xt,seen,woken⟩:=x
 simp only at hb hn h1
 have h0':¬ t<0:=by omega
 obtain⟨x1,v1,g1,_,ga⟩:=(GroE.nil v (α:=Int)).appr (P:=Tryz.prog) (t:=23) (t2:=23) (by_:=8) (by kernel_rfl) (by omega) woken (by simp;omega)
 obtain⟨x2,v2,g2,_,gb⟩:=g1.push (P:=Tryz.prog) (t:=23) (t2:=23) (sz:=1) (by_:=8) (by kernel_rfl) rfl (by omega) t (by simp;omega)
 simp only[yG,List.nil_append] at gb g2
 have c1:=g1.gro.cells
 have c2:=g2.gro.cells
 have hw2:=g2.gro.weak
 have hpre:=g2.1
 simp only[Xs.lv,Prog.lv,Cor.lv,List.cons_append,List.nil_append] at ht hr ⊢
 refine ac0 Tryz.func272 Tryz.ntmps272 ?_
 have hrs:Tryz.f272.results = #[.cell 6 226]:=rfl
 repeat' (first|(with_reducible first|refine uk ?_|refine wk ?_ ?_<;>intro _|refine andC ?_ ?_|refine wg hr (by simp[hw2]) (fun v3 hv3=>?_)|refine zg ht (fun v4 hv4=>?_))|simp -implicitDefEqProofs(disch:=first|assumption|omega)[*])
 all_goals exact Ends.eqat rfl (by simp) (hpre.trans (hv3.trans hv4))
theorem zhQ {B n:Nat}(hE:EndC n)(hB:B≤10000){x:Xs}{k:Nat}{l:List Int}(h1:k<x.c.threads.length)(hs:(nth x.c.threads k).state=2)(hc:zz x.c≤n)(h:XsB B x)(hl:l.length≤1000) :
  zG Tryz.prog 272 [.agg x.lv,.int .i64 k,row l] (.agg (vE n x k l).lv):=by
 have h1':(k:Int)<x.c.threads.length:=by omega
 have hr:=JZ (x:={x with woken:=x.woken++[(k:Int)] }) (t:=k) 0 (st:=0) (by omega) (by omega) h1'
 have hs':(at' x.c.threads (k:Int)).state=2:=hs
 simp only[hs',if_true] at hr
 have hw:=h.woken
 have hl':=vb {x with woken:=x.woken++[(k:Int)] } k 0 0
 have hX:XsE B (yj {x with woken:=x.woken++[(k:Int)] } k 0 0):=by
  refine⟨by rw[hl'];exact h.n,zbW h.thr (by omega) h1',?_,?_⟩
  ·show x.seen.length+1+zz (yj {x with woken:=x.woken++[(k:Int)] } k 0 0).c≤B
   have:=h.seen;omega
  ·show (x.woken++[(k:Int)]).length+zz (yj {x with woken:=x.woken++[(k:Int)] } k 0 0).c≤B
   simp;omega
 unfold vE
 rw[if_neg (by omega)]
 exact zcg (by omega) h.n (by omega) h1' (zbk hE hB (by omega) (by rw[hl'];exact h1') (by omega) hX hl)
theorem zjP {B n:Nat}(hE:EndC n)(hB:B≤10000){x:Xs}{t:Int}{l:List Int}(h1:t<x.c.threads.length)(hc:zz x.c<n)(h:XsE B x)(hw:x.woken.length+1+zz x.c≤B)(hl:l.length≤1000) :
  zG Tryz.prog 272 [.agg x.lv,.int .i64 t,row l] (.agg (vE n x t l).lv):=by
 unfold vE
 by_cases h0:t<0
 ·rw[if_pos h0];exact zgw h0
 rw[if_neg h0]
 have hr:=JZ (x:={x with woken:=x.woken++[t] }) (t:=t) 0 (st:=0) (by omega) (by omega) h1
 have hl':=vb {x with woken:=x.woken++[t] } t 0 0
 have hX:XsE B (yj {x with woken:=x.woken++[t] } t 0 0):=by
  refine⟨by rw[hl'];exact h.n,zbW h.thr (by omega) h1,?_,?_⟩
  ·show x.seen.length+1+zz (yj {x with woken:=x.woken++[t] } t 0 0).c≤B
   have:=h.seen;simp only at hr;omega
  ·show (x.woken++[t]).length+zz (yj {x with woken:=x.woken++[t] } t 0 0).c≤B
   simp only at hr;simp;omega
 exact zcg (by omega) h.n (by omega) h1 (zbk hE hB (by omega) (by rw[hl'];exact h1) (by simp only at hr;omega) hX hl)
def endK (n:Nat)(code t:Int)(x:Xs)(k:Nat):Xs:=endL n code t (List.range k) (end0 x t code)
theorem zfC (n:Nat)(code t:Int)(x:Xs)(k:Nat):endK n code t x (k+1)=if (nth (endK n code t x k).c.threads k).state=2∧(nth (endK n code t x k).c.threads k).on=t then vE n (endK n code t x k) k [code] else endK n code t x k:=by
 unfold endK
 rw[List.range_succ,zbI,endL,endL]
theorem Xs.lv' (x:Xs):x.lv=[row x.p.funcs,.int .i64 x.p.mutexes,row x.p.conds,row x.p.semas,row x.p.chans,row x.p.choices,.int .i64 x.p.threads,.int .i64 x.c.now,row x.c.threads,row x.c.owners,row x.c.counts,row x.c.bufs,row x.c.lockq,row x.c.waitq,row x.c.downq,row x.c.sendq,row x.c.recvq,.int .i64 x.t,row x.seen,row x.woken]:=rfl
def Z20:List LV:=[.nils,.int .i64 0,.nils,.nils,.nils,.nils,.int .i64 0,.int .i64 0,.nils,.nils,.nils,.nils,.nils,.nils,.nils,.nils,.nils,.int .i64 0,.nils,.nils]
theorem zkG {n:Nat}(hE:EndC n):EndC (n+1):=fun B x t code hB h0 h1 hc h=>by
 refine .of fun s v=>?_
 have hk0:=Yd (code:=code) h0 h1 h
 have hK:∀ k,k≤x.c.threads.length→Keeps B (end0 x t code) (endK n code t x k):=fun k hk=>uW (wP B n) _ _ (fun j hj=>by rw[hk0.len];simp at hj;omega) (by have:=hk0.c2;omega) hk0.b
 have hn:=h.n
 have hsn:=h.seen
 have hwT:=zao (c:=x.c) (t:=t) (x:=zO code) hn h0 h1
 have hse:=zgo (x:={x with c:=yd x.c t (zO code) }) (k:=2) (t:=t) (n:=code) (by show x.seen.length≤_;omega)
 have he:=Ym code
 have h00:seeX {x with c:=yd x.c t (zO code) } 2 t code=endK n code t x 0:=by unfold endK;rw[List.range_zero,endL];rfl
 rw[h00] at hse
 rw[um]
 have hfin:endL n code t (List.range (end0 x t code).c.threads.length) (end0 x t code)=endK n code t x (end0 x t code).c.threads.length:=rfl
 rw[hfin]
 clear hfin
 have hlen:(end0 x t code).c.threads.length=x.c.threads.length:=hk0.len
 rw[hlen]
 generalize hy0:endK n code t x 0=y0 at *
 generalize yd x.c t (zO code)=c1 at *
 simp only[Cor.lv,Thr.lv,zO,Xs.lv'] at hwT he hse ⊢
 refine ac0 Tryz.func246 Tryz.ntmps246 ?_
 have hrs:Tryz.f246.results = #[.cell 6 226]:=rfl
 repeat' (first|(with_reducible first|refine uk ?_|refine wk ?_ ?_<;>intro _|(refine dr P246 mixed ?_ ?_ ?_;kernel_rfl;kernel_rfl)|refine andC ?_ ?_|refine zc he ?_|refine zc hwT ?_|refine zg hse (fun v1 hv1=>?_))|simp -implicitDefEqProofs(disch:=first|assumption|omega)[*])
 refine zC (β:=List Nat) false x.c.threads.length (fun k p=>v <+: p) (fun k p=>[(7,.int .i64 k),(19,.any),(20,.any),(21,.any),(22,.any),(23,.any),(24,.any),(27,.any),(28,.any),(29,.any),(30,.any),(31,.any),(32,.any),(33,.any),(34,.any),(35,.any),(36,.any),(37,.any),(38,.any),(39,.any),(40,.any),(41,.any),(42,.any),(43,.any),(44,.any),(45,.any),(46,.any),(47,.any),(48,.any),(49,.any),(50,.any),(25,.any),(26,.any)]) (fun k p=>s++[.cells (endK n code t x k).lv,.cells Z20]) (fun k p=>p) ?_ ?_
 ·exact⟨v1,hv1,fz0,by rw[hy0];rfl,rfl⟩
 rintro k v2 hk hv2
 replace hv2:v <+: v2:=hv2
 have hKk:=hK k hk
 have hklen:(endK n code t x k).c.threads.length=x.c.threads.length:=hKk.len.trans hlen
 have hsucc:=zfC n code t x k
 by_cases hlt:k<x.c.threads.length
 ·clear he hwT hse hy0
  have hxk:=zB (l:=(endK n code t x k).c.threads) (i:=(k:Int)) (by omega) (by omega)
  by_cases hst:(nth (endK n code t x k).c.threads k).state=2
  ·by_cases hon:(nth (endK n code t x k).c.threads k).on=t
   ·rw[if_pos ⟨hst,hon⟩] at hsucc
    have hw:=zhQ hE hB (l:=[code]) (by rw[hklen];exact hlt) hst (by have:=hKk.c2;have:=hk0.c2;omega) hKk.b (by simp)
    rw[← hsucc] at hw
    have hwk:Weak (.imm 1 1 [.int .i64 code] .full) (row [code]):=Weak.row (l:=[code]) (yh.refl _) rfl
    generalize hz:endK n code t x (k+1)=z at *
    generalize endK n code t x k=y at *
    simp only[Xs.lv'] at hw ⊢
    clear hsucc
    repeat' (first|(with_reducible first|refine uk ?_|refine wk ?_ ?_<;>intro _|(refine dr P246 mixed ?_ ?_ ?_;kernel_rfl;kernel_rfl)|refine andC ?_ ?_|refine wg hw (by simp[hwk]) (fun v3 hv3=>?_))|simp -implicitDefEqProofs(disch:=first|assumption|omega)[*])
    all_goals exact⟨hlt,v3,hv2.trans hv3,fz,by simp[hz],rfl⟩
   ·rw[if_neg (fun h=>hon h.2)] at hsucc
    rw[← hsucc] at hst hon hxk hklen
    generalize hz:endK n code t x (k+1)=z at *
    rw[← hsucc]
    clear hsucc
    simp only[Xs.lv']
    repeat' (first|(with_reducible first|refine uk ?_|refine wk ?_ ?_<;>intro _|(refine dr P246 mixed ?_ ?_ ?_;kernel_rfl;kernel_rfl)|refine andC ?_ ?_)|simp -implicitDefEqProofs(disch:=first|assumption|omega)[*])
    all_goals exact⟨hlt,v2,hv2,fz,by simp[hz],rfl⟩
  ·rw[if_neg (fun h=>hst h.1)] at hsucc
   rw[← hsucc] at hst hxk hklen
   generalize hz:endK n code t x (k+1)=z at *
   rw[← hsucc]
   clear hsucc
   simp only[Xs.lv']
   repeat' (first|(with_reducible first|refine uk ?_|refine wk ?_ ?_<;>intro _|(refine dr P246 mixed ?_ ?_ ?_;kernel_rfl;kernel_rfl)|refine andC ?_ ?_)|simp -implicitDefEqProofs(disch:=first|assumption|omega)[*])
   all_goals exact⟨hlt,v2,hv2,fz,by simp[hz],rfl⟩
 ·have hke:k=x.c.threads.length:=by omega
  subst hke
  clear he hwT hse hy0 hsucc
  show go _ ⟨⟩ ⟨upds _ _,s++[.cells (endK n code t x x.c.threads.length).lv,.cells Z20],v2⟩
  generalize endK n code t x x.c.threads.length=y at *
  simp only[Xs.lv',Z20]
  repeat' (first|(with_reducible first|refine uk ?_|refine wk ?_ ?_<;>intro _|(refine dr P246 mixed ?_ ?_ ?_;kernel_rfl;kernel_rfl)|refine andC ?_ ?_)|simp -implicitDefEqProofs(disch:=first|assumption|omega)[*])
  all_goals exact Ends.eqat rfl (by simp) hv2
theorem Xn:∀ n,EndC n
 | 0=>fun B x t code _ _ _ h=>absurd h (by omega)
 | n+1=>zkG (Xn n)
def Small (x:Xs):Prop:=x.seen.length≤300∧x.woken.length≤300
theorem xK {p:Prog}(hp:MayP p){x:Xs}(h:Inv p (-1) noD x.c)(hs:Small x){c':Cor}(hth:c'.threads=x.c.threads):XsE 1000 {x with c:=c' }∧zz c'<fu:=by
 have hc:zz c'=zz x.c:=by unfold zz;rw[hth]
 have h2:=h.c2 hp
 have hn:=h.nthr.2
 have ht:=hp.threads.2
 unfold fu at h2 ⊢
 refine⟨⟨by show c'.threads.length≤1000;rw[hth];omega,fun th hth'=>?_,?_,?_⟩,by omega⟩
 ·have hth':th∈c'.threads:=hth'
  rw[hth] at hth'
  obtain⟨k,hk,rfl⟩:=List.getElem_of_mem hth'
  have:=h.thr k hk
  rw[zK hk] at this
  exact zfb hp this
 ·show x.seen.length+1+zz c'≤1000
  have:=hs.1;omega
 ·show x.woken.length+zz c'≤1000
  have:=hs.2;omega
theorem Yj {p:Prog}(hp:MayP p){x:Xs}(h:Inv p (-1) noD x.c)(hs:Small x):XsE 1000 x∧zz x.c<fu:=xK hp h hs rfl
theorem zhe {p:Prog}(hp:MayP p){y:Xs}(h:Inv p (-1) noD y.c)(h1:y.seen.length≤900)(h2:y.woken.length≤900):XsE 1000 y∧zz y.c<fu:=by
 have hc:=h.c2 hp
 have he:=(xK hp (x:={y with seen:=[],woken:=[] }) h ⟨by simp,by simp⟩ (c':=y.c) rfl).1
 unfold fu at hc ⊢
 exact⟨⟨he.n,he.thr,by omega,by omega⟩,hc⟩
theorem YI {x:Xs}{t code:Int}(h0:0≤t)(h1:t<x.c.threads.length)(h:XsE 1000 x∧zz x.c<fu):zG Tryz.prog 246 [.agg x.lv,.int .i64 t,.int .i64 code] (.agg (endF x t code).lv):=Xn fu 1000 x t code (by omega) h0 h1 h.2 h.1
theorem Kh {x:Xs}{t:Int}{l:List Int}(h0:0≤t)(h1:t<x.c.threads.length)(h:XsE 1000 x∧zz x.c<fu)(hl:l.length≤1000):zG Tryz.prog 273 [.agg x.lv,.int .i64 t,row l] (.agg (wJ x t l).lv):=zbk (Xn fu) (by omega) h0 h1 h.2 h.1 hl
theorem wY {x:Xs}{t:Int}{l:List Int}(h1:t<x.c.threads.length)(h:XsE 1000 x∧zz x.c<fu)(hw:x.woken.length+1+zz x.c≤1000)(hl:l.length≤1000):zG Tryz.prog 272 [.agg x.lv,.int .i64 t,row l] (.agg (yO x t l).lv):=zjP (Xn fu) (by omega) h1 h.2 h.1 hw hl
theorem vM {n:Nat}{cs:List LV}{r:Right}{l:List Int}(hc:cs=zd l)(hn:n=l.length):Weak (.imm 1 n cs r) (row l):=by subst hc;exact Weak.row (yh.refl _) hn
theorem zka {p:Prog}(hp:MayP p){x:Xs}(h:Run p x)(hs:Small x){f:Int}(h0:0≤f)(h1:f<p.funcs.length):zG Tryz.prog 247 [.agg x.lv,.int .i64 f] (.agg (JU x f).lv):=by
 refine .of fun s v=>?_
 obtain e:x.p=p:=h.p
 subst e
 have hE:=Yj hp h.inv hs
 have hs1:=hs.1
 have hs2:=hs.2
 have hn1:=h.inv.nthr.2
 have hn2:=hp.threads.2
 have hfc:=hp.code _ (uh h0 h1)
 have hnew:=zch (fs:=x.p.funcs) (mu:=x.p.mutexes) (th:=x.p.threads) (co:=x.p.conds) (se:=x.p.semas) (ch:=x.p.chans) (cho:=x.p.choices) h0 h1 hfc.1 hfc.2.1
 unfold JU
 by_cases hth:x.p.threads≤x.c.threads.length
 ·rw[if_pos hth]
  have hse:=zgo (x:=x) (k:=1) (t:=x.t) (n:= -1) (by omega)
  have hE2:=zhe (y:=seeX x 1 x.t (-1)) hp h.inv (by show (x.seen++[_]).length≤900;simp;omega) (by show x.woken.length≤900;omega)
  have hte:=Kh (x:=seeX x 1 x.t (-1)) (t:=x.t) (l:=[-1]) h.t.1 h.t.2 hE2 (by simp)
  have hw:Weak (.imm 1 1 [.int .i64 (-1)] .full) (row [(-1:Int)]):=vM rfl rfl
  generalize hy:wJ (seeX x 1 x.t (-1)) x.t [-1]=z at *
  generalize hy2:seeX x 1 x.t (-1)=y at *
  simp only[Xs.lv'] at hse hte ⊢
  refine ac0 Tryz.func247 Tryz.ntmps247 ?_
  have hrs:Tryz.f247.results = #[.cell 4 226]:=rfl
  repeat' (first|(with_reducible first|refine uk ?_|refine wk ?_ ?_<;>intro _|(refine dr P247 mixed ?_ ?_ ?_;kernel_rfl;kernel_rfl)|refine andC ?_ ?_|refine zg hse (fun v1 hv1=>?_)|refine wg hte (by simp[hw]) (fun v2 hv2=>?_))|simp -implicitDefEqProofs(disch:=first|assumption|omega)[*])
  all_goals exact Ends.eqat rfl (by simp) (hv1.trans hv2)
 ·rw[if_neg hth]
  have hth':¬ (x.p.threads≤(x.c.threads.length:Int)):=hth
  obtain⟨x1,v1,g1,_,ga⟩:=(GroE.nil v (α:=Thr)).appr (P:=Tryz.prog) (t:=27) (t2:=27) (by_:=72) (by kernel_rfl) (by omega) x.c.threads (by simp;omega)
  obtain⟨x2,v2,g2,_,gb⟩:=g1.push (P:=Tryz.prog) (t:=27) (t2:=27) (sz:=5) (by_:=72) (by kernel_rfl) rfl (by omega) (zU x.p f) (by simp;omega)
  obtain⟨x3,v3,g3,_,gc⟩:=(GroE.nil v2 (α:=Int)).appr (P:=Tryz.prog) (t:=23) (t2:=23) (by_:=8) (by kernel_rfl) (by omega) x.woken (by simp;omega)
  obtain⟨x4,v4,g4,_,gd⟩:=g3.push (P:=Tryz.prog) (t:=23) (t2:=23) (sz:=1) (by_:=8) (by kernel_rfl) rfl (by omega) (x.c.threads.length:Int) (by simp;omega)
  have hx2:Run x.p (seeX {x with c:={x.c with threads:=x.c.threads++[zU x.p f] },woken:=x.woken++[(x.c.threads.length:Int)] } 1 x.t x.c.threads.length)∧Inv x.p (-1) noD {x.c with threads:=x.c.threads++[zU x.p f] }:=Jy hp h h0 h1 hth
  have hse:=zgo (x:={x with c:={x.c with threads:=x.c.threads++[zU x.p f] },woken:=x.woken++[(x.c.threads.length:Int)] }) (k:=1) (t:=x.t) (n:=x.c.threads.length) (by show x.seen.length≤_;omega)
  have hE2:=zhe hp hx2.1.inv (by show (x.seen++[_]).length≤900;simp;omega) (by show (x.woken++[_]).length≤900;simp;omega)
  have hte:=Kh (l:=[(x.c.threads.length:Int)]) hx2.1.t.1 hx2.1.t.2 hE2 (by simp)
  have hw:Weak (.imm 1 1 [.int .i64 (x.c.threads.length:Int)] .full) (row [(x.c.threads.length:Int)]):=vM rfl rfl
  clear hx2 hE2 hE hfc
  generalize hy2:seeX {x with c:={x.c with threads:=x.c.threads++[zU x.p f] },woken:=x.woken++[(x.c.threads.length:Int)] } 1 x.t x.c.threads.length=y at *
  have hyt:y.t=x.t:=by rw[← hy2];rfl
  rw[hyt] at hte
  clear hyt
  generalize wJ y x.t [(x.c.threads.length:Int)]=z at *
  have c1:=g1.gro.cells
  have c2:=g2.gro.cells
  have c3:=g3.gro.cells
  have c4:=g4.gro.cells
  have w2:=g2.gro.weak
  have w4:=g4.gro.weak
  simp only[List.nil_append] at w2 w4
  simp only[yG,zba] at gb gd
  have hpre:=g2.1.trans g4.1
  simp only[Xs.lv'] at hse hte ⊢
  simp only[Thr.lv,Prog.lv] at hnew
  clear hy2
  refine ac0 Tryz.func247 Tryz.ntmps247 ?_
  have hrs:Tryz.f247.results = #[.cell 4 226]:=rfl
  repeat' (first|(with_reducible first|refine uk ?_|refine wk ?_ ?_<;>intro _|(refine dr P247 mixed ?_ ?_ ?_;kernel_rfl;kernel_rfl)|refine andC ?_ ?_|refine zc hnew ?_|refine wg hse (by simp[w2,w4]) (fun v5 hv5=>?_)|refine wg hte (by simp[hw]) (fun v6 hv6=>?_))|simp -implicitDefEqProofs(disch:=first|assumption|omega)[*])
  all_goals exact Ends.eqat rfl (by simp) (hpre.trans (hv5.trans hv6))
theorem zlW {p:Prog}(hp:MayP p){x:Xs}(h:Run p x)(hs:Small x)(j:Int):zG Tryz.prog 249 [.agg x.lv,.int .i64 j] (.agg (zaT x j).lv):=by
 refine .of fun s v=>?_
 have hE:=Yj hp h.inv hs
 have hn1:=h.inv.nthr.2
 have hn2:=hp.threads.2
 unfold zaT
 by_cases h1:j<0∨(x.c.threads.length:Int)≤j∨j=x.t
 ·rw[if_pos h1]
  have he:=YI (code:=5) h.t.1 h.t.2 hE
  generalize endF x x.t 5=z at *
  simp only[Xs.lv'] at he ⊢
  by_cases h2:j<0
  ·refine ac0 Tryz.func249 Tryz.ntmps249 ?_
   have hrs:Tryz.f249.results = #[.cell 4 226]:=rfl
   repeat' (first|(with_reducible first|refine uk ?_|refine wk ?_ ?_<;>intro _|(refine dr P249 mixed ?_ ?_ ?_;kernel_rfl;kernel_rfl)|refine andC ?_ ?_|refine zg he (fun v2 hv2=>?_))|simp -implicitDefEqProofs(disch:=first|assumption|omega)[*])
   all_goals exact Ends.eqat rfl (by simp) hv2
  ·by_cases h3:(x.c.threads.length:Int)≤j
   ·refine ac0 Tryz.func249 Tryz.ntmps249 ?_
    have hrs:Tryz.f249.results = #[.cell 4 226]:=rfl
    repeat' (first|(with_reducible first|refine uk ?_|refine wk ?_ ?_<;>intro _|(refine dr P249 mixed ?_ ?_ ?_;kernel_rfl;kernel_rfl)|refine andC ?_ ?_|refine zg he (fun v2 hv2=>?_))|simp -implicitDefEqProofs(disch:=first|assumption|omega)[*])
    all_goals exact Ends.eqat rfl (by simp) hv2
   ·have h4:j=x.t:=by omega
    subst h4
    clear h1
    refine ac0 Tryz.func249 Tryz.ntmps249 ?_
    have hrs:Tryz.f249.results = #[.cell 4 226]:=rfl
    repeat' (first|(with_reducible first|refine uk ?_|refine wk ?_ ?_<;>intro _|(refine dr P249 mixed ?_ ?_ ?_;kernel_rfl;kernel_rfl)|refine andC ?_ ?_|refine zg he (fun v2 hv2=>?_))|simp -implicitDefEqProofs(disch:=first|assumption|omega)[*])
    all_goals exact Ends.eqat rfl (by simp) hv2
 ·rw[if_neg h1]
  have q1:¬ j<0:=by omega
  have q2:¬ (x.c.threads.length:Int)≤j:=by omega
  have q3:¬ j=x.t:=by omega
  have hx:=zB (l:=x.c.threads) (i:=j) (by omega) (by omega)
  by_cases h9:(at' x.c.threads j).state=9
  ·rw[if_pos h9]
   unfold at' at h9 ⊢
   have hte:=Kh (l:=[(nth x.c.threads j.toNat).code]) h.t.1 h.t.2 hE (by simp)
   have hw:Weak (.imm 1 1 [.int .i64 (nth x.c.threads j.toNat).code] .full) (row [(nth x.c.threads j.toNat).code]):=vM rfl rfl
   generalize wJ x x.t [(nth x.c.threads j.toNat).code]=z at *
   simp only[Xs.lv'] at hte ⊢
   clear h1
   refine ac0 Tryz.func249 Tryz.ntmps249 ?_
   have hrs:Tryz.f249.results = #[.cell 4 226]:=rfl
   repeat' (first|(with_reducible first|refine uk ?_|refine wk ?_ ?_<;>intro _|(refine dr P249 mixed ?_ ?_ ?_;kernel_rfl;kernel_rfl)|refine andC ?_ ?_|refine wg hte (by simp[hw]) (fun v2 hv2=>?_))|simp -implicitDefEqProofs(disch:=first|assumption|omega)[*])
   all_goals exact Ends.eqat rfl (by simp) hv2
  ·rw[if_neg h9]
   have hr:=Qn (x:=x) (t:=x.t) (st:=2) (on:=j) (by omega) h.t.1 h.t.2
   generalize yj x x.t 2 j=z at *
   simp only[Xs.lv'] at hr ⊢
   unfold at' at h9
   clear h1
   refine ac0 Tryz.func249 Tryz.ntmps249 ?_
   have hrs:Tryz.f249.results = #[.cell 4 226]:=rfl
   repeat' (first|(with_reducible first|refine uk ?_|refine wk ?_ ?_<;>intro _|(refine dr P249 mixed ?_ ?_ ?_;kernel_rfl;kernel_rfl)|refine andC ?_ ?_|refine zg hr (fun v2 hv2=>?_))|simp -implicitDefEqProofs(disch:=first|assumption|omega)[*])
   all_goals exact Ends.eqat rfl (by simp) hv2
theorem zjt {p:Prog}(hp:MayP p){x:Xs}(h:Run p x)(hs:Small x){kind a:Int}(h0:0≤a)(h1:a<p.semas.length):zG Tryz.prog 251 [.agg x.lv,.int .i64 kind,.int .i64 a] (.agg (zbC x kind a).lv):=by
 refine .of fun s v=>?_
 have hl:=h.inv.len
 have hb:=h.inv.corB hp
 have hn1:=h.inv.nthr.2
 have hn2:=hp.threads.2
 have hc:=h.inv.things.counts a.toNat (by rw[hl.counts];omega)
 unfold zbC
 by_cases hk:kind=11
 ·rw[if_pos hk]
  have hd:=zlN (t:=x.t) hb h0 (by rw[hl.counts];exact h1) (by rw[hl.downq];exact h1) hc
  have hth:(Zy x.c a x.t).1.threads=x.c.threads:=by unfold Zy;split<;>rfl
  generalize Zy x.c a x.t=r at *
  obtain⟨c1,is⟩:=r
  simp only at hth
  simp only[Cor.lv] at hd
  cases is
  ·simp only[Bool.false_eq_true,if_false]
   have hr:=Qn (x:={x with c:=c1 }) (t:=x.t) (st:=5) (on:=a) (by show c1.threads.length≤_;rw[hth];omega) h.t.1 (by show x.t<(c1.threads.length:Int);rw[hth];exact h.t.2)
   generalize yj {x with c:=c1 } x.t 5 a=z at *
   simp only[Xs.lv'] at hr ⊢
   clear hth
   refine ac0 Tryz.func251 Tryz.ntmps251 ?_
   have hrs:Tryz.f251.results = #[.cell 6 226]:=rfl
   repeat' (first|(with_reducible first|refine uk ?_|refine wk ?_ ?_<;>intro _|refine andC ?_ ?_|refine zg hd (fun v1 hv1=>?_)|refine zg hr (fun v2 hv2=>?_))|simp -implicitDefEqProofs(disch:=first|assumption|omega)[*])
   all_goals exact Ends.eqat rfl (by simp) (hv1.trans hv2)
  ·simp only[if_true,Xs.lv']
   refine ac0 Tryz.func251 Tryz.ntmps251 ?_
   have hrs:Tryz.f251.results = #[.cell 6 226]:=rfl
   repeat' (first|(with_reducible first|refine uk ?_|refine wk ?_ ?_<;>intro _|refine andC ?_ ?_|refine zg hd (fun v1 hv1=>?_))|simp -implicitDefEqProofs(disch:=first|assumption|omega)[*])
   all_goals exact Ends.eqat rfl (by simp) hv1
 ·rw[if_neg hk]
  have hu:=up_p hb h0 (by rw[hl.counts];exact h1) (by rw[hl.downq];exact h1) hc
  have hth:(upC x.c a).1.threads=x.c.threads:=by unfold upC;split<;>(try split)<;>rfl
  have hti:(upC x.c a).2<(x.c.threads.length:Int):=by
   unfold upC
   split
   ·split<;>(simp only;omega)
   ·rename_i hq
    have:=h.inv.mem 5 a.toNat (nth (at' x.c.downq a) 0) (by show _∈nth x.c.downq a.toNat;exact zm (by unfold at' at hq;omega))
    exact this.2
  have hE:=xK hp h.inv hs hth
  have hs2:=hs.2
  generalize upC x.c a=r at *
  obtain⟨c1,t⟩:=r
  simp only at hth hti hE
  have hwk:=wY (x:={x with c:=c1 }) (t:=t) (l:=[]) (by show t<(c1.threads.length:Int);rw[hth];exact hti) hE (by show x.woken.length+1+zz c1≤1000;have:=hE.2;unfold fu at this;omega) (by simp)
  have hw:Weak .nils (row ([]:List Int)):=Weak.nilrow
  generalize yO {x with c:=c1 } t []=z at *
  simp only[Cor.lv] at hu
  simp only[Xs.lv'] at hwk ⊢
  clear hth hE
  refine ac0 Tryz.func251 Tryz.ntmps251 ?_
  have hrs:Tryz.f251.results = #[.cell 6 226]:=rfl
  repeat' (first|(with_reducible first|refine uk ?_|refine wk ?_ ?_<;>intro _|refine andC ?_ ?_|refine zg hu (fun v1 hv1=>?_)|refine wg hwk (by simp[hw]) (fun v2 hv2=>?_))|simp -implicitDefEqProofs(disch:=first|assumption|omega)[*])
  all_goals exact Ends.eqat rfl (by simp) (hv1.trans hv2)
end Go.Hb
end
