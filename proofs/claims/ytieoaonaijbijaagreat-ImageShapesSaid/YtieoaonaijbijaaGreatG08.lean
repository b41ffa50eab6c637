/-
  A layer for reasoning about the program's calls, and contracts of its functions. CONDITIONS: none; each theorem bears its own.
-/
import Derived.Test.YtieoaonaijbijaaGreatG07
set_option linter.unusedVariables false
set_option linter.unusedSimpArgs false
section
namespace Go.Hb
open Go
def zbx (p:Prog)(a b:Thr):Prop:=b=a∨((a.state=0∨a.state=2)∧ThrI p b∧(b.state=0∨b.state=9)∧b.on=0)
theorem zbx.trans {p:Prog}{a b c:Thr}(h:zbx p a b)(k:zbx p b c):zbx p a c:=by
 rcases h with rfl | h
 ·exact k
 ·rcases k with rfl | k
  ·exact .inr h
  ·exact .inr ⟨h.1,k.2⟩
structure Ev (p:Prog)(x y:Xs):Prop where
 c:y.c = {x.c with threads:=y.c.threads }
 len:y.c.threads.length=x.c.threads.length
 th:∀ k,k<x.c.threads.length→zbx p (nth x.c.threads k) (nth y.c.threads k)
 p:y.p=x.p
 t:y.t=x.t
 woken:∀ w∈y.woken,w∈x.woken∨(0≤w∧w<x.c.threads.length)
theorem Ev.refl (p:Prog)(x:Xs):Ev p x x:=⟨rfl,rfl,fun _ _=>.inl rfl,rfl,rfl,fun _ h=>.inl h⟩
theorem Ev.trans {p:Prog}{x y z:Xs}(h:Ev p x y)(k:Ev p y z):Ev p x z:=by
 refine⟨?_,k.len.trans h.len,fun i hi=>(h.th i hi).trans (k.th i (by rw[h.len];exact hi)),k.p.trans h.p,k.t.trans h.t,fun w hw=>?_⟩
 ·rw[k.c,h.c]
 ·rcases k.woken w hw with hw | hw
  ·exact h.woken w hw
  ·exact .inr (by rw[← h.len];exact hw)
theorem Ka {f:Thr→Bool} : ∀ {l m:List Thr},l.length=m.length→(∀ k,k<l.length→f (nth l k)=true→f (nth m k)=true)→l.countP f≤m.countP f
 | [],[],_,_=>Nat.le_refl _
 | [],_ :: _,h,_=>by simp at h
 | _ :: _,[],h,_=>by simp at h
 | a :: l,b :: m,h,k=>by
  have ih:=Ka (f:=f) (l:=l) (m:=m) (by simpa using h) (fun i hi hf=>by
   have:=k (i+1) (by simpa using hi) (by simpa[nth] using hf)
   simpa[nth] using this)
  have h0:=k 0 (by simp)
  simp only[nth,List.getD_cons_zero] at h0
  rw[List.countP_cons,List.countP_cons]
  by_cases ha:f a=true
  ·rw[if_pos ha,if_pos (h0 ha)];omega
  ·rw[if_neg ha];omega
theorem Ev.c2 {p:Prog}{x y:Xs}(h:Ev p x y):zz y.c≤zz x.c:=by
 refine Ka h.len fun k hk hf=>?_
 rcases h.th k (by rw[← h.len];exact hk) with e | ⟨_,_,e,_⟩
 ·rw[e] at hf;exact hf
 ·unfold is2 at hf;simp at hf;omega
def AllI (p:Prog)(x:Xs):Prop:=∀ k,k<x.c.threads.length→ThrI p (nth x.c.threads k)
theorem Ev.all {p:Prog}{x y:Xs}(h:Ev p x y)(ha:AllI p x):AllI p y:=fun k hk=>by
 have hk':k<x.c.threads.length:=by rw[← h.len];exact hk
 rcases h.th k hk' with e | ⟨_,e,_⟩
 ·rw[e];exact ha k hk'
 ·exact e
theorem Kf {c:Cor}{t:Int}{th:Thr}(h0:0≤t)(h1:t<c.threads.length)(k:Nat):nth (yd c t th).threads k=if t=(k:Int) then th else nth c.threads k:=by
 show nth (c.threads.set t.toNat th) k=_
 rw[zN]
 by_cases e:t=(k:Int)
 ·rw[if_pos ⟨by omega,by omega⟩,if_pos e]
 ·rw[if_neg (fun h=>e (by omega)),if_neg e]
theorem zcE {p:Prog}{x:Xs}{t:Int}{th:Thr}(h0:0≤t)(h1:t<x.c.threads.length)(hs:zbx p (at' x.c.threads t) th):Ev p x {x with c:=yd x.c t th }:=
 ⟨rfl,by show (x.c.threads.set _ _).length=_;rw[List.length_set],fun k hk=>by
  show zbx p _ (nth (yd x.c t th).threads k)
  rw[Kf h0 h1]
  by_cases e:t=(k:Int)
  ·rw[if_pos e];unfold at' at hs;rw[show k=t.toNat by omega];exact hs
  ·rw[if_neg e];exact .inl rfl,rfl,rfl,fun _ h=>.inl h⟩
theorem zmf {p:Prog}{x y:Xs}(h:Ev p x y)(k t n:Int):Ev p x (seeX y k t n):=⟨h.c,h.len,h.th,h.p,h.t,h.woken⟩
theorem zfX {p:Prog}{t:Thr}(h:ThrI p t)(hs:t.state≠9):ThrI p {t with state:=0,on:=0 }:=
 ⟨by simp,h.code,h.fr,h.sk,h.frs,h.sks,fun h=>by simp at h,fun _=>h.live hs⟩
def EndI (p:Prog)(n:Nat):Prop:=∀ D x t code,0≤t→t<(x.c.threads.length:Int)→(at' x.c.threads t).state=0→AllI p x→zz x.c<n→0≤code→code≤6→wI D x.c.threads→
 Ev p x (endX n x t code)∧wI D (endX n x t code).c.threads
theorem zcK {p:Prog}{n:Nat}(hE:EndI p n){D:Nat→Int→Prop}{x:Xs}{t:Int}{l:List Int}(h0:0≤t)(h1:t<x.c.threads.length)(hs:(at' x.c.threads t).state=0)(ho:(at' x.c.threads t).on=0)(ha:AllI p x)(hc:zz x.c<n)(hj:wI D x.c.threads) :
  Ev p x (wW n x t l)∧wI D (wW n x t l).c.threads:=by
 unfold wW
 split
 ·rename_i hok
  have hg:=XY (p:=p) l (ha t.toNat (by omega)) (by show (at' x.c.threads t).state≠9;omega) hok
  have hst:(yi (at' x.c.threads t) l).1.state=0:=hg.st.trans hs
  refine⟨zcE h0 h1 (.inr ⟨.inl hs,hg.i,.inl hst,hg.on.trans ho⟩),hj.set (by omega) (.inl (by omega))⟩
 ·exact hE D x t 2 h0 h1 hs ha hc (by omega) (by omega) hj
theorem zjy {p:Prog}{D:Nat→Int→Prop}{x:Xs}{k:Nat}(h1:k<x.c.threads.length)(hs:(nth x.c.threads k).state=2)(ha:AllI p x)(hj:wI D x.c.threads) :
  Ev p x (yj {x with woken:=x.woken++[(k:Int)] } k 0 0)∧wI (fun i on=>D i on∧i≠k) (yj {x with woken:=x.woken++[(k:Int)] } k 0 0).c.threads:=by
 have h:=zcE (x:=x) (t:=k) (th:={nth x.c.threads k with state:=0,on:=0 }) (by omega) (by omega) (.inr ⟨.inr hs,zfX (ha k h1) (by omega),.inl rfl,rfl⟩)
 refine⟨⟨h.c,h.len,h.th,rfl,rfl,fun w hw=>?_⟩,?_⟩
 ·rcases List.mem_append.1 hw with hw | hw
  ·exact .inl hw
  ·simp at hw;subst hw;exact .inr ⟨by omega,by omega⟩
 ·have hj2:wI D (x.c.threads.set k {nth x.c.threads k with state:=0,on:=0 }):=hj.set (by simp) (.inl (by simp))
  refine wI.weak (ts:=x.c.threads.set k {nth x.c.threads k with state:=0,on:=0 }) hj2 fun i on hi hs2 ho hd=>⟨hd,fun e=>?_⟩
  subst e
  rw[wC (by simpa using h1)] at hs2
  simp at hs2
theorem zjg {p:Prog}{n:Nat}(hE:EndI p n){D:Nat→Int→Prop}{x:Xs}{k:Nat}{l:List Int}(h1:k<x.c.threads.length)(hs:(nth x.c.threads k).state=2)(ha:AllI p x)(hc:zz x.c≤n)(hj:wI D x.c.threads) :
  Ev p x (vE n x k l)∧wI (fun i on=>D i on∧i≠k) (vE n x k l).c.threads:=by
 unfold vE
 rw[if_neg (by omega)]
 obtain⟨hv,hj2⟩:=zjy h1 hs ha hj
 have hr:=JZ (x:={x with woken:=x.woken++[(k:Int)] }) (t:=k) 0 (st:=0) (by omega) (by omega) (by show (k:Int)<x.c.threads.length;omega)
 have hs':(at' x.c.threads (k:Int)).state=2:=hs
 simp only[hs',if_true] at hr
 have hat:at' (yj {x with woken:=x.woken++[(k:Int)] } k 0 0).c.threads (k:Int) = {nth x.c.threads k with state:=0,on:=0 }:=by
  show at' (x.c.threads.set (k:Int).toNat _) (k:Int)=_
  rw[zcz (by omega) (by omega)];rfl
 have ht:=zcK hE (D:=fun i on=>D i on∧i≠k) (x:=yj {x with woken:=x.woken++[(k:Int)] } k 0 0) (t:=k) (l:=l) (by omega) (by rw[hv.len];omega) (by rw[hat]) (by rw[hat]) (hv.all ha) (by omega) hj2
 exact⟨hv.trans ht.1,ht.2⟩
theorem zdF {p:Prog}{n:Nat}(hE:EndI p n){code t:Int}{D:Nat→Int→Prop} : ∀ (ks:List Nat) (x:Xs),(∀ k∈ks,k<x.c.threads.length)→AllI p x→zz x.c≤n→wI (fun k on=>D k on∨(on=t∧k∈ks)) x.c.threads→
  Ev p x (endL n code t ks x)∧wI D (endL n code t ks x).c.threads
 | [],x,_,_,_,hj=>by
  rw[endL]
  exact⟨Ev.refl p x,hj.weak fun k on _ _ _ h=>h.resolve_right (by simp)⟩
 | k :: ks,x,hk,ha,hc,hj=>by
  rw[endL]
  by_cases hw:(nth x.c.threads k).state=2∧(nth x.c.threads k).on=t
  ·rw[if_pos hw]
   have h1:=zjg hE (l:=[code]) (hk k (by simp)) hw.1 ha hc hj
   have h2:=zdF hE (code:=code) ks (vE n x k [code]) (fun j hj=>by rw[h1.1.len];exact hk j (by simp[hj])) (h1.1.all ha) (by have:=h1.1.c2;omega) (h1.2.weak fun i on _ _ _ h=>h.1.imp id fun h'=>⟨h'.1,by have:=h'.2;simp at this;exact this.resolve_left h.2⟩)
   exact⟨h1.1.trans h2.1,h2.2⟩
  ·rw[if_neg hw]
   refine zdF hE ks x (fun j hj=>hk j (by simp[hj])) ha hc (hj.weak fun i on hi hs ho h=>h.imp id fun h'=>⟨h'.1,?_⟩)
   rcases List.mem_cons.1 h'.2 with e | e
   ·subst e;exact absurd ⟨hs,ho.trans h'.1⟩ hw
   ·exact e
theorem zfT (p:Prog):∀ n,EndI p n
 | 0=>fun D x t code _ _ _ _ h=>absurd h (by omega)
 | n+1=>fun D x t code h0 h1 hs ha hc c0 c1 hj=>by
  rw[um]
  have hv:Ev p x (end0 x t code):=zmf (zcE h0 h1 (.inr ⟨.inl hs,zgG p c0 c1,.inr rfl,rfl⟩)) 2 t code
  have hj2:wI (fun k on=>D k on∨(on=t∧k∈List.range (end0 x t code).c.threads.length)) (end0 x t code).c.threads:=fun k hk hk2=>by
   have hn:nth (end0 x t code).c.threads k=if t=(k:Int) then zO code else nth x.c.threads k:=Kf h0 h1 k
   have hl:=hv.len
   rw[hn] at hk2 ⊢
   by_cases e:t=(k:Int)
   ·rw[if_pos e] at hk2;simp[zO] at hk2
   ·rw[if_neg e] at hk2 ⊢
    obtain⟨q1,q2,q3,q4⟩:=hj k (by omega) hk2
    refine⟨q1,by omega,q3,?_⟩
    by_cases e2:(nth x.c.threads k).on=t
    ·exact .inr (.inr ⟨e2,by simpa using hk⟩)
    ·have hn2:at' (end0 x t code).c.threads (nth x.c.threads k).on=at' x.c.threads (nth x.c.threads k).on:=by
      show nth (yd x.c t (zO code)).threads _=_
      rw[Kf h0 h1,if_neg (by omega)];rfl
     rw[hn2]
     exact q4.imp id .inl
  have hk:=wQ (c:=x.c) (x:=zO code) h0 h1
  have he:(zO code).state≠2:=by simp[zO]
  rw[if_neg he] at hk
  have h2:=zdF (zfT p n) (code:=code) (t:=t) (D:=D) _ _ (fun k hk=>by simpa using hk) (hv.all ha) (by show zz (yd x.c t (zO code))≤n;omega) hj2
  exact⟨hv.trans h2.1,h2.2⟩
theorem Inv.ev {p:Prog}{ex:Int}{D D':Nat→Int→Prop}{x y:Xs}(h:Inv p ex D x.c)(hv:Ev p x y)(hj:wI D' y.c.threads):Inv p ex D' y.c:=by
 have hl:=hv.len
 have hc:=hv.c
 have key:∀ k,k<x.c.threads.length→nth y.c.threads k=nth x.c.threads k∨((k:Int)≠ex∧((nth x.c.threads k).state=0∨(nth x.c.threads k).state=2)∧ThrI p (nth y.c.threads k)∧((nth y.c.threads k).state=0∨(nth y.c.threads k).state=9)∧(nth y.c.threads k).on=0):=fun k hk=>by
  rcases hv.th k hk with e | e
  ·exact .inl e
  ·refine .inr ⟨fun e2=>?_,e⟩
   have:=h.exs k hk e2
   omega
 have hrow:∀ r k,zJ y.c r k=zJ x.c r k:=fun r k=>by rw[hc];rfl
 refine⟨by rw[hc];exact⟨h.len.owners,h.len.counts,h.len.bufs,h.len.lockq,h.len.waitq,h.len.downq,h.len.sendq,h.len.recvq⟩,by rw[hc];exact h.now,by rw[hl];exact h.nthr,fun t ht=>?_,fun t ht hte=>?_,fun t ht hte=>?_,hj,fun r k t ht=>?_,fun r k t hk ht=>?_,?_⟩
 ·rcases key t (by omega) with e | e
  ·rw[e];exact h.thr t (by omega)
  ·exact e.2.2.1
 ·have hn:y.c.now=x.c.now:=by rw[hc]
  rw[hn]
  rcases key t (by omega) with e | ⟨_,_,_,e,e2⟩
  ·rw[e];exact h.one t (by omega) hte
  ·exact⟨fun _=>e2,fun h=>by omega,fun h=>by omega,fun h _=>by omega,fun h=>by omega⟩
 ·rcases key t (by omega) with e | e
  ·rw[e];exact h.exs t (by omega) hte
  ·exact absurd hte e.1
 ·rw[hrow] at ht;rw[hl];exact h.mem r k t ht
 ·rw[hrow,h.cnt r k t hk (by omega)]
  rcases key t (by omega) with e | ⟨e0,e1,_,e2,_⟩
  ·rw[e]
  ·rw[if_neg e0,if_neg e0,Xt (by omega) _ hk,Xt (by omega) _ hk]
 ·rw[hl,hc]
  have q:=h.things
  exact⟨q.owners,q.counts,q.mutex,q.sema,q.chan⟩
end Go.Hb
end
section
namespace Go.Hb
open Go
theorem Xa {c:Cor}{m:Nat}(hm:m<c.lockq.length)(l:List Int)(r:Int)(k:Nat):zJ {c with lockq:=c.lockq.set m l } r k=if r=3∧k=m then l else zJ c r k:=by
 rw[zbA,zN]
 by_cases h:r=3<;>by_cases h2:m=k<;>simp_all [zJ,eq_comm]
theorem zct {c:Cor}{m:Nat}(hm:m<c.waitq.length)(l:List Int)(r:Int)(k:Nat):zJ {c with waitq:=c.waitq.set m l } r k=if r=4∧k=m then l else zJ c r k:=by
 rw[zbb,zN]
 by_cases h:r=4<;>by_cases h2:m=k<;>simp_all [zJ,eq_comm]
theorem zcx {c:Cor}{m:Nat}(hm:m<c.downq.length)(l:List Int)(r:Int)(k:Nat):zJ {c with downq:=c.downq.set m l } r k=if r=5∧k=m then l else zJ c r k:=by
 rw[zbm,zN]
 by_cases h:r=5<;>by_cases h2:m=k<;>simp_all [zJ,eq_comm]
theorem zcl {c:Cor}{m:Nat}(hm:m<c.sendq.length)(l:List Int)(r:Int)(k:Nat):zJ {c with sendq:=c.sendq.set m l } r k=if r=6∧k=m then vC l else zJ c r k:=by
 rw[zbo,zN]
 by_cases h:r=6<;>by_cases h2:m=k<;>simp_all [zJ,eq_comm]
theorem zha {c:Cor}{m:Nat}(hm:m<c.recvq.length)(l:List Int)(r:Int)(k:Nat):zJ {c with recvq:=c.recvq.set m l } r k=if r=7∧k=m then l else zJ c r k:=by
 rw[Qq,zN]
 by_cases h:r=7<;>by_cases h2:m=k<;>simp_all [zJ,eq_comm]
section
variable {p:Prog} {ex:Int} {D:Nat→Int→Prop} {c c':Cor}
theorem Inv.zero (h:Inv p ex D c){t:Nat}(ht:t<c.threads.length)(h0:(ex = -1∧(nth c.threads t).state=0)∨ex=t){r:Int}{k:Nat}(hk:k<yv p r):(zJ c r k).count (t:Int)=0:=by
 rw[h.cnt r k t hk ht]
 rcases h0 with ⟨rfl,h0⟩ | rfl
 ·rw[if_neg (by omega),h0];exact Xt (by omega) _ hk
 ·rw[if_pos rfl]
theorem Inv.enter (h:Inv p ex D c){t:Nat}(ht:t<c.threads.length)(h0:(ex = -1∧(nth c.threads t).state=0)∨ex=t)(h9:(nth c.threads t).state≠9){r:Int}{k:Nat}(hk:k<yv p r)
  (hrow:∀ r' k',zJ c' r' k'=if r'=r∧k'=k then zJ c r k++[(t:Int)] else zJ c r' k') (hth:c'.threads=c.threads.set t {nth c.threads t with state:=r,on:=k }) (hlen:LenI p c') (hnow:c'.now=c.now) (hI:ThingsI p c.threads.length c'):Inv p (-1) D c':=by
 have hr:=Jd hk
 have hi:=h.thr t ht
 refine h.change ht hth hlen hnow ⟨by simp;omega,hi.code,hi.fr,hi.sk,hi.frs,hi.sks,fun h=>by simp at h;omega,fun _=>hi.live h9⟩ (h0.imp And.left id) (.inl rfl) (fun _=>?_) (fun e=>by omega) ?_ (fun r' k' u hu=>?_) (fun r' k' u hk' hu=>?_) (fun r' k' hk'=>?_) hI
 ·exact⟨fun h=>by simp at h;omega,fun h=>by simp at h;omega,fun h=>by simp at h;omega,fun _ _=>⟨by simp,by simpa using hk⟩,fun h=>by simp at h;omega⟩
 ·rw[hth];exact h.join.set (by simp;omega) (.inl (by simp;omega))
 ·rw[hrow] at hu
  split at hu
  ·rename_i e
   rcases List.mem_append.1 hu with hu | hu
   ·rw[e.1,e.2];exact .inr hu
   ·simp at hu;exact .inl hu
  ·exact .inr hu
 ·rw[hrow]
  split
  ·rename_i e
   rw[e.1,e.2,List.count_append,List.count_singleton]
   have:((t:Int) == u)=false:=by simpa using fun e=>hu e.symm
   rw[this];simp
  ·rfl
 ·rw[hrow,if_neg (show ¬ (t:Int) = -1 by omega),zfa (by simp;omega)]
  have hz:=fun r k hk=>h.zero ht h0 (r:=r) (k:=k) hk
  by_cases e:r'=r∧k'=k
  ·rw[if_pos e,List.count_append,hz r k hk,if_pos ⟨e.1.symm,by simp[e.2]⟩];simp
  ·rw[if_neg e,hz r' k' hk',if_neg (fun h=>e ⟨h.1.symm,by have:=h.2;simp at this;omega⟩)]
theorem Inv.leave (h:Inv p (-1) D c){t:Int}{rest:List Int}{r:Int}{k:Nat}(hk:k<yv p r)(h7:r≠7)(hhd:zJ c r k=t :: rest)
  (hrow:∀ r' k',zJ c' r' k'=if r'=r∧k'=k then rest else zJ c r' k') (hth:c'.threads=c.threads) (hlen:LenI p c') (hnow:c'.now=c.now) (hI:ThingsI p c.threads.length c') :
  (0≤t∧t<c.threads.length∧(at' c.threads t).state≠9∧(at' c.threads t).state≠0)∧Inv p t D c':=by
 have hr:=Jd hk
 have hm:=h.mem r k t (by rw[hhd];simp)
 obtain⟨t,rfl⟩:∃ n:Nat,t=n:=⟨t.toNat,by omega⟩
 have ht:t<c.threads.length:=by omega
 have hi:=h.thr t ht
 have hc:=h.cnt r k t hk ht
 rw[hhd,if_neg (by omega),List.count_cons_self] at hc
 have hw:(nth c.threads t).state=r∧(nth c.threads t).on=k:=by
  unfold want must at hc
  split at hc
  ·rename_i e
   simp only[Bool.or_eq_true,decide_eq_true_eq] at e
   rcases e with e | e
   ·exact e
   ·exact absurd e.2.1 h7
  ·omega
 have hc0:rest.count (t:Int)=0:=by have:=zec p (nth c.threads t).state (nth c.threads t).on r k;omega
 refine⟨⟨hm.1,hm.2,?_,?_⟩,h.change ht (th:=nth c.threads t) ?_ hlen hnow hi (.inl rfl) (.inr rfl) (fun e=>absurd rfl e) (fun _=>by rw[hw.1];omega) (by rw[hth];exact h.join) (fun r' k' u hu=>?_) (fun r' k' u hk' hu=>?_) (fun r' k' hk'=>?_) hI⟩
 ·show (nth c.threads t).state≠9;rw[hw.1];omega
 ·show (nth c.threads t).state≠0;rw[hw.1];omega
 ·rw[hth];rw[zK ht,List.set_getElem_self]
 ·rw[hrow] at hu
  split at hu
  ·rename_i e
   rw[e.1,e.2,hhd];exact .inr (List.mem_cons_of_mem _ hu)
  ·exact .inr hu
 ·rw[hrow]
  split
  ·rename_i e
   rw[e.1,e.2,hhd,List.count_cons_of_ne (fun e=>hu e.symm)]
  ·rfl
 ·rw[hrow,if_pos rfl]
  split
  ·exact hc0
  ·rename_i e
   rw[h.cnt r' k' t hk' ht,if_neg (by omega),zfa (by omega),if_neg (fun h=>e ⟨by omega,by have:=h.2;omega⟩)]
theorem Inv.cancel (h:Inv p (-1) D c){t:Int}{k:Nat}(hk:k<yv p 7)(hin:t∈nth c.recvq k)(hI:ThingsI p c.threads.length (xP c t)) :
  (0≤t∧t<c.threads.length∧((at' c.threads t).state=7∨(at' c.threads t).state=8∧(k:Int)∈at' p.choices (at' c.threads t).on))∧Inv p t D (xP c t):=by
 have hm:=h.mem 7 k t (by simpa[zJ] using hin)
 obtain⟨t,rfl⟩:∃ n:Nat,t=n:=⟨t.toNat,by omega⟩
 have ht:t<c.threads.length:=by omega
 have hi:=h.thr t ht
 have hc:=h.cnt 7 k t hk ht
 have hpos:0<(zJ c 7 k).count (t:Int):=List.count_pos_iff.2 (by simpa[zJ] using hin)
 rw[if_neg (by omega)] at hc
 have hw:(nth c.threads t).state=7∨(nth c.threads t).state=8∧(k:Int)∈at' p.choices (nth c.threads t).on:=by
  unfold want must at hc
  split at hc
  ·rename_i e
   simp only[Bool.or_eq_true,decide_eq_true_eq] at e
   exact e.imp And.left fun e=>⟨e.1,e.2.2⟩
  ·omega
 have hrow:∀ r' k',zJ (xP c t) r' k'=if r'=7 then (zJ c 7 k').filter (fun x=>decide (x≠(t:Int))) else zJ c r' k':=fun r' k'=>by
  unfold xP
  rw[Qq]
  by_cases e:r'=7
  ·rw[if_pos e,if_pos e]
   have e7:zJ c 7 k'=nth c.recvq k':=by simp[zJ]
   rw[e7]
   by_cases hk2:k'<c.recvq.length
   ·rw[zK (by simpa using hk2),zK hk2];simp
   ·rw[uI (by simp;omega),uI (by omega)];rfl
  ·rw[if_neg e,if_neg e]
 have hlen:LenI p (xP c t):=⟨h.len.owners,h.len.counts,h.len.bufs,h.len.lockq,h.len.waitq,h.len.downq,h.len.sendq,by show (c.recvq.map _).length=_;rw[List.length_map];exact h.len.recvq⟩
 refine⟨⟨hm.1,hm.2,hw⟩,h.change ht (th:=nth c.threads t) ?_ hlen rfl hi (.inl rfl) (.inr rfl) (fun e=>absurd rfl e) (fun _=>by rcases hw with hw | hw<;>omega) h.join (fun r' k' u hu=>?_) (fun r' k' u hk' hu=>?_) (fun r' k' hk'=>?_) hI⟩
 ·show c.threads=_;rw[zK ht,List.set_getElem_self]
 ·rw[hrow] at hu
  split at hu
  ·rename_i e
   rw[e];exact .inr (List.mem_filter.1 hu).1
  ·exact .inr hu
 ·rw[hrow]
  split
  ·rename_i e
   rw[e,List.count_filter (by simpa using hu)]
  ·rfl
 ·rw[hrow,if_pos rfl]
  split
  ·exact List.count_eq_zero.2 fun h=>by simp[List.mem_filter] at h
  ·rename_i e
   rw[h.cnt r' k' t hk' ht,if_neg (by omega)]
   unfold want must
   rw[if_neg]
   simp only[Bool.or_eq_true,decide_eq_true_eq,not_or]
   have:=Jd hk'
   exact⟨fun h=>by rcases hw with hw | hw<;>omega,fun h=>e h.2.1⟩
theorem Inv.wake {t:Int}(h:Inv p t D c)(h0:0≤t)(h1:t<c.threads.length):Inv p (-1) D (yd c t {at' c.threads t with state:=0,on:=0 }):=by
 obtain⟨t,rfl⟩:∃ n:Nat,t=n:=⟨t.toNat,by omega⟩
 have ht:t<c.threads.length:=by omega
 have hex:=h.exs t ht rfl
 refine h.change ht (th:={nth c.threads t with state:=0,on:=0 }) rfl ⟨h.len.owners,h.len.counts,h.len.bufs,h.len.lockq,h.len.waitq,h.len.downq,h.len.sendq,h.len.recvq⟩ rfl (zfX (h.thr t ht) (by omega)) (.inr rfl) (.inl rfl)
  (fun _=>⟨fun _=>rfl,fun h=>by simp at h,fun h=>by simp at h,fun h _=>by simp at h,fun h=>by simp at h⟩) (fun e=>by omega) (h.join.set (by simp) (.inl (by simp))) (fun r' k' u hu=>.inr hu) (fun r' k' u hk' hu=>rfl) (fun r' k' hk'=>?_) ⟨h.things.owners,h.things.counts,h.things.mutex,h.things.sema,h.things.chan⟩
 rw[if_neg (by omega),Xt (by simp) _ hk']
 exact h.zero ht (.inr rfl) hk'
end
theorem Inv.all {p:Prog}{ex:Int}{D:Nat→Int→Prop}{x:Xs}(h:Inv p ex D x.c):AllI p x:=fun k hk=>h.thr k hk
theorem Inv.c2 {p:Prog}{ex:Int}{D:Nat→Int→Prop}{c:Cor}(h:Inv p ex D c)(hp:MayP p):zz c<fu:=by
 have h1:zz c≤c.threads.length:=List.countP_le_length
 have h2:=h.nthr.2
 have h3:=hp.threads.2
 unfold fu;omega
end Go.Hb
end
section
namespace Go.Hb
open Go
section
variable {p:Prog} {n:Nat} {c:Cor}
theorem ThingsI.owner (h:ThingsI p n c)(m:Nat){t:Int}(h0:0≤t)(h1:t<n):ThingsI p n {c with owners:=c.owners.set m t }:=by
 refine⟨fun k hk=>?_,h.counts,fun k hk=>?_,h.sema,h.chan⟩
 ·simp at hk;show -1≤nth (c.owners.set m t) k∧nth (c.owners.set m t) k<n
  rw[zN];split
  ·omega
  ·exact h.owners k hk
 ·simp at hk;show _∨nth (c.owners.set m t) k≠ -1
  rw[zN];split
  ·right;omega
  ·exact h.mutex k hk
theorem ThingsI.lockset (h:ThingsI p n c)(m:Nat)(l:List Int)(ho:nth c.owners m≠ -1):ThingsI p n {c with lockq:=c.lockq.set m l }:=by
 refine⟨h.owners,h.counts,fun k hk=>?_,h.sema,h.chan⟩
 show nth (c.lockq.set m l) k=[]∨_
 rw[zN];split
 ·rename_i e;rw[← e.1];exact .inr ho
 ·exact h.mutex k hk
theorem ThingsI.free (h:ThingsI p n c)(m:Nat)(ho:nth c.lockq m=[]):ThingsI p n {c with owners:=c.owners.set m (-1) }:=by
 refine⟨fun k hk=>?_,h.counts,fun k hk=>?_,h.sema,h.chan⟩
 ·simp at hk;show -1≤nth (c.owners.set m (-1)) k∧nth (c.owners.set m (-1)) k<n
  rw[zN];split
  ·omega
  ·exact h.owners k hk
 ·simp at hk;show _∨nth (c.owners.set m (-1)) k≠ -1
  rw[zN];split
  ·rename_i e;rw[← e.1];exact .inl ho
  ·exact h.mutex k hk
theorem ThingsI.waits (h:ThingsI p n c)(W:List (List Int)):ThingsI p n {c with waitq:=W }:=⟨h.owners,h.counts,h.mutex,h.sema,h.chan⟩
theorem ThingsI.thr (h:ThingsI p n c)(T:List Thr):ThingsI p n {c with threads:=T }:=⟨h.owners,h.counts,h.mutex,h.sema,h.chan⟩
theorem ThingsI.more (h:ThingsI p n c){m:Nat}(hm:n≤m):ThingsI p m c:=⟨fun k hk=>by have:=h.owners k hk;omega,h.counts,h.mutex,h.sema,h.chan⟩
theorem ThingsI.downset (h:ThingsI p n c)(m:Nat)(l:List Int)(ho:nth c.counts m=0):ThingsI p n {c with downq:=c.downq.set m l }:=by
 refine⟨h.owners,h.counts,h.mutex,fun k hk=>?_,h.chan⟩
 show _∨nth (c.downq.set m l) k=[]
 rw[zN];split
 ·rename_i e;rw[← e.1];exact .inl ho
 ·exact h.sema k hk
theorem ThingsI.count (h:ThingsI p n c)(m:Nat){v:Int}(h0:0≤v)(h1:v≤1073741824)(ho:v=0∨nth c.downq m=[]):ThingsI p n {c with counts:=c.counts.set m v }:=by
 refine⟨h.owners,fun k hk=>?_,h.mutex,fun k hk=>?_,h.chan⟩
 ·simp at hk;show 0≤nth (c.counts.set m v) k∧nth (c.counts.set m v) k≤_
  rw[zN];split
  ·omega
  ·exact h.counts k hk
 ·simp at hk;show nth (c.counts.set m v) k=0∨_
  rw[zN];split
  ·rename_i e;rw[← e.1];exact ho
  ·exact h.sema k hk
theorem ThingsI.chans (h:ThingsI p n c){B S R:List (List Int)}(hk:∀ k,k<p.chans.length→(nth B k=nth c.bufs k∧nth S k=nth c.sendq k∧nth R k=nth c.recvq k)∨ChanI p k (nth B k) (nth S k) (nth R k)):ThingsI p n {c with bufs:=B,sendq:=S,recvq:=R }:=by
 refine⟨h.owners,h.counts,h.mutex,h.sema,fun k hk'=>?_⟩
 show ChanI p k (nth B k) (nth S k) (nth R k)
 rcases hk k hk' with ⟨e1,e2,e3⟩ | e
 ·rw[e1,e2,e3];exact h.chan k hk'
 ·exact e
end
section
variable {p:Prog} {c:Cor}
theorem LenI.owners' (h:LenI p c)(m:Nat)(x:Int):LenI p {c with owners:=c.owners.set m x }:=⟨by simpa using h.owners,h.counts,h.bufs,h.lockq,h.waitq,h.downq,h.sendq,h.recvq⟩
theorem LenI.counts' (h:LenI p c)(m:Nat)(x:Int):LenI p {c with counts:=c.counts.set m x }:=⟨h.owners,by simpa using h.counts,h.bufs,h.lockq,h.waitq,h.downq,h.sendq,h.recvq⟩
theorem LenI.lockq' (h:LenI p c)(m:Nat)(x:List Int):LenI p {c with lockq:=c.lockq.set m x }:=⟨h.owners,h.counts,h.bufs,by simpa using h.lockq,h.waitq,h.downq,h.sendq,h.recvq⟩
theorem LenI.waitq' (h:LenI p c)(m:Nat)(x:List Int):LenI p {c with waitq:=c.waitq.set m x }:=⟨h.owners,h.counts,h.bufs,h.lockq,by simpa using h.waitq,h.downq,h.sendq,h.recvq⟩
theorem LenI.downq' (h:LenI p c)(m:Nat)(x:List Int):LenI p {c with downq:=c.downq.set m x }:=⟨h.owners,h.counts,h.bufs,h.lockq,h.waitq,by simpa using h.downq,h.sendq,h.recvq⟩
theorem LenI.bufs' (h:LenI p c)(m:Nat)(x:List Int):LenI p {c with bufs:=c.bufs.set m x }:=⟨h.owners,h.counts,by simpa using h.bufs,h.lockq,h.waitq,h.downq,h.sendq,h.recvq⟩
theorem LenI.sendq' (h:LenI p c)(m:Nat)(x:List Int):LenI p {c with sendq:=c.sendq.set m x }:=⟨h.owners,h.counts,h.bufs,h.lockq,h.waitq,h.downq,by simpa using h.sendq,h.recvq⟩
theorem LenI.recvq' (h:LenI p c)(m:Nat)(x:List Int):LenI p {c with recvq:=c.recvq.set m x }:=⟨h.owners,h.counts,h.bufs,h.lockq,h.waitq,h.downq,h.sendq,by simpa using h.recvq⟩
theorem LenI.thr (h:LenI p c)(T:List Thr):LenI p {c with threads:=T }:=⟨h.owners,h.counts,h.bufs,h.lockq,h.waitq,h.downq,h.sendq,h.recvq⟩
end
theorem Inv.same {p:Prog}{ex:Int}{D:Nat→Int→Prop}{c c':Cor}(h:Inv p ex D c)(hth:c'.threads=c.threads)(hnow:c'.now=c.now)(hlen:LenI p c')(hrow:∀ r k,zJ c' r k=zJ c r k)(hI:ThingsI p c.threads.length c'):Inv p ex D c':=
 ⟨hlen,by rw[hnow];exact h.now,by rw[hth];exact h.nthr,by rw[hth];exact h.thr,by rw[hth,hnow];exact h.one,by rw[hth];exact h.exs,by rw[hth];exact h.join,fun r k t ht=>by rw[hth];rw[hrow] at ht;exact h.mem r k t ht,fun r k t hk ht=>by rw[hth] at ht ⊢;rw[hrow];exact h.cnt r k t hk ht,by rw[hth];exact hI⟩
structure Res (p:Prog)(x y:Xs):Prop where
 inv:Inv p (-1) noD y.c
 p:y.p=x.p
 t:y.t=x.t
 woken:∀ w∈y.woken,w∈x.woken∨(0≤w∧w<y.c.threads.length)
 len:x.c.threads.length≤y.c.threads.length
theorem Res.refl {p:Prog}{x:Xs}(h:Inv p (-1) noD x.c):Res p x x:=⟨h,rfl,rfl,fun _ h=>.inl h,Nat.le_refl _⟩
theorem Res.trans {p:Prog}{x y z:Xs}(h:Res p x y)(k:Res p y z):Res p x z:=⟨k.inv,k.p.trans h.p,k.t.trans h.t,fun w hw=>by
 rcases k.woken w hw with hw | hw
 ·rcases h.woken w hw with hw | hw
  ·exact .inl hw
  ·have:=k.len;exact .inr (by omega)
 ·exact .inr hw,Nat.le_trans h.len k.len⟩
theorem Res.of_ev {p:Prog}{x y:Xs}(h:Inv p (-1) noD x.c)(hv:Ev p x y)(hj:wI noD y.c.threads):Res p x y:=
 ⟨h.ev hv hj,hv.p,hv.t,by rw[hv.len];exact hv.woken,Nat.le_of_eq hv.len.symm⟩
structure Run (p:Prog)(x:Xs):Prop where
 inv:Inv p (-1) noD x.c
 p:x.p=p
 t:0≤x.t∧x.t<x.c.threads.length
 st:(at' x.c.threads x.t).state=0
theorem Run.on {p:Prog}{x:Xs}(h:Run p x):(at' x.c.threads x.t).on=0:=(h.inv.one x.t.toNat (by have:=h.t;omega) (by have:=h.t;omega)).rest (.inl h.st)
theorem zhW {p:Prog}(hp:MayP p){x:Xs}(h:Run p x){code:Int}(h0:0≤code)(h1:code≤6):Res p x (endF x x.t code):=by
 have:=zfT p fu noD x x.t code h.t.1 h.t.2 h.st h.inv.all (h.inv.c2 hp) h0 h1 h.inv.join
 exact .of_ev h.inv this.1 this.2
theorem zey {p:Prog}(hp:MayP p){x:Xs}(h:Run p x)(l:List Int):Res p x (wJ x x.t l):=by
 have:=zcK (zfT p fu) (D:=noD) (l:=l) h.t.1 h.t.2 h.st h.on h.inv.all (h.inv.c2 hp) h.inv.join
 exact .of_ev h.inv this.1 this.2
theorem zkC {p:Prog}{x:Xs}(h:Inv p (-1) noD x.c)(k t n:Int):Res p x (seeX x k t n):=⟨h,rfl,rfl,fun _ h=>.inl h,Nat.le_refl _⟩
theorem zaq {p:Prog}(hp:MayP p){x:Xs}{t:Int}(h:Inv p t noD x.c)(h0:0≤t)(h1:t<x.c.threads.length)(l:List Int):Res p x (yO x t l):=by
 unfold yO vE
 rw[if_neg (by omega)]
 have hw:=h.wake h0 h1
 have hl:=vb {x with woken:=x.woken++[t] } t 0 0
 have hat:at' (yj {x with woken:=x.woken++[t] } t 0 0).c.threads t = {at' x.c.threads t with state:=0,on:=0 }:=zcz h0 h1
 have hinv:Inv p (-1) noD (yj {x with woken:=x.woken++[t] } t 0 0).c:=hw
 have:=zcK (zfT p fu) (D:=noD) (x:=yj {x with woken:=x.woken++[t] } t 0 0) (t:=t) (l:=l) h0 (by rw[hl];exact h1) (by rw[hat]) (by rw[hat]) hinv.all (hinv.c2 hp) hinv.join
 have hr:Res p (yj {x with woken:=x.woken++[t] } t 0 0) _:=.of_ev hinv this.1 this.2
 refine⟨hr.inv,hr.p,hr.t,fun w hw=>?_,by have:=hr.len;rw[hl] at this;exact this⟩
 rcases hr.woken w hw with hw | hw
 ·rcases List.mem_append.1 hw with hw | hw
  ·exact .inl hw
  ·simp at hw;subst hw
   have:=hr.len
   rw[hl] at this
   have:x.c.threads.length≤(wW fu (yj {x with woken:=x.woken++[w] } w 0 0) w l).c.threads.length:=this
   exact .inr ⟨h0,by omega⟩
 ·exact .inr hw
theorem vB (x:Xs){t:Int}(h0:0≤t)(h1:t<x.c.threads.length):yO x t [] = {x with woken:=x.woken++[t],c:=yd x.c t {at' x.c.threads t with state:=0,on:=0 } }:=by
 unfold yO vE
 rw[if_neg (by omega)]
 unfold wW yi
 rw[if_pos rfl]
 have hat:at' (yj {x with woken:=x.woken++[t] } t 0 0).c.threads t = {at' x.c.threads t with state:=0,on:=0 }:=zcz h0 h1
 rw[hat]
 unfold yj yd
 simp
theorem wZ (x:Xs){t:Int}(h0:t<0)(l:List Int):yO x t l=x:=by unfold yO vE;rw[if_pos h0]
end Go.Hb
end
section
namespace Go.Hb
open Go
theorem Jy {x:Xs}(hp:MayP x.p)(h:Run x.p x){f:Int}(h0:0≤f)(h1:f<x.p.funcs.length)(hlt:¬ x.p.threads≤(x.c.threads.length:Int)) :
  Run x.p (seeX {x with c:={x.c with threads:=x.c.threads++[zU x.p f] },woken:=x.woken++[(x.c.threads.length:Int)] } 1 x.t x.c.threads.length)∧Inv x.p (-1) noD {x.c with threads:=x.c.threads++[zU x.p f] }:=by
 have hn:=zcp hp h0 h1
 have hlen:(x.c.threads++[zU x.p f]).length=x.c.threads.length+1:=by simp
 have hnl:∀ {k},k<x.c.threads.length→nth (x.c.threads++[zU x.p f]) k=nth x.c.threads k:=fun hk=>zav hk
 have key:∀ {k},k<(x.c.threads++[zU x.p f]).length→k<x.c.threads.length∨(k=x.c.threads.length∧nth (x.c.threads++[zU x.p f]) k=zU x.p f):=fun {k} hk=>by
  by_cases e:k<x.c.threads.length
  ·exact .inl e
  ·have e:k=x.c.threads.length:=by omega
   exact .inr ⟨e,by rw[e];exact zbe⟩
 have hinv:Inv x.p (-1) noD {x.c with threads:=x.c.threads++[zU x.p f] }:=by
  have hi:=h.inv
  refine⟨hi.len.thr _,hi.now,⟨by show 1≤(x.c.threads++_).length;omega,by show ((x.c.threads++_).length:Int)≤_;omega⟩,fun t ht=>?_,fun t ht hte=>?_,fun t ht hte=>by omega,fun k hk hs=>?_,fun r k t ht=>?_,fun r k t hk ht=>?_,?_⟩
  ·show ThrI x.p (nth (x.c.threads++_) t)
   rcases key ht with e | e
   ·rw[hnl e];exact hi.thr t e
   ·rw[e.2];exact hn
  ·show OneI x.p x.c.now (nth (x.c.threads++_) t)
   rcases key ht with e | e
   ·rw[hnl e];exact hi.one t e hte
   ·rw[e.2];exact⟨fun _=>rfl,fun h=>by simp[zU] at h,fun h=>by simp[zU] at h,fun h=>by simp[zU] at h,fun h=>by simp[zU] at h⟩
  ·rcases key hk with e | e
   ·rw[hnl e] at hs ⊢
    obtain⟨q1,q2,q3,q4⟩:=hi.join k e hs
    refine⟨q1,by rw[hlen];omega,q3,?_⟩
    unfold at' at q4 ⊢
    rw[hnl (by omega)];exact q4
   ·rw[e.2] at hs;simp[zU] at hs
  ·have:=hi.mem r k t ht
   show 0≤t∧t<((x.c.threads++[zU x.p f]).length:Int)
   omega
  ·show (zJ x.c r k).count (t:Int)=if (t:Int) = -1 then 0 else want x.p (nth (x.c.threads++_) t).state (nth (x.c.threads++_) t).on r k
   rcases key ht with e | e
   ·rw[hnl e];exact hi.cnt r k t hk e
   ·rw[e.2,if_neg (by omega),Xt (by simp[zU]) _ hk]
    refine List.count_eq_zero.2 fun hm=>?_
    have:=hi.mem r k t hm
    omega
  ·show ThingsI x.p (x.c.threads++[zU x.p f]).length _
   exact(hi.things.more (by omega)).thr _
 have hx2:Run x.p (seeX {x with c:={x.c with threads:=x.c.threads++[zU x.p f] },woken:=x.woken++[(x.c.threads.length:Int)] } 1 x.t x.c.threads.length):=by
  refine⟨hinv,h.p,⟨h.t.1,by show x.t<((x.c.threads++[zU x.p f]).length:Int);have:=h.t.2;omega⟩,?_⟩
  show (nth (x.c.threads++_) x.t.toNat).state=0
  rw[hnl (by have:=h.t;omega)];exact h.st
 exact⟨hx2,hinv⟩
theorem ziZ {p:Prog}(hp:MayP p){x:Xs}(h:Run p x){f:Int}(h0:0≤f)(h1:f<p.funcs.length):Res p x (JU x f):=by
 obtain e:x.p=p:=h.p
 subst e
 unfold JU
 split
 ·have hs:=zkC h.inv 1 x.t (-1)
  exact hs.trans (zey hp (x:=seeX x 1 x.t (-1)) ⟨h.inv,h.p,h.t,h.st⟩ [-1])
 ·rename_i hlt
  have hlen:(x.c.threads++[zU x.p f]).length=x.c.threads.length+1:=by simp
  have hx2:=(Jy hp h h0 h1 hlt).1
  have ht:=zey hp hx2 [(x.c.threads.length:Int)]
  refine⟨ht.inv,ht.p.trans rfl,ht.t.trans rfl,fun w hw=>?_,?_⟩
  ·rcases ht.woken w hw with hw | hw
   ·rcases List.mem_append.1 hw with hw | hw
    ·exact .inl hw
    ·simp at hw;subst hw
     have hl2:=ht.len
     have hl3:(x.c.threads++[zU x.p f]).length≤(wJ (seeX {x with c:={x.c with threads:=x.c.threads++[zU x.p f] },woken:=x.woken++[(x.c.threads.length:Int)] } 1 x.t x.c.threads.length) x.t [(x.c.threads.length:Int)]).c.threads.length:=hl2
     exact .inr ⟨by omega,by omega⟩
   ·exact .inr hw
  ·have hl3:(x.c.threads++[zU x.p f]).length≤_:=ht.len
   have:x.c.threads.length≤(x.c.threads++[zU x.p f]).length:=by omega
   exact Nat.le_trans this hl3
theorem Ko {p:Prog}{x:Xs}(h:Run p x):x.t.toNat<x.c.threads.length∧((x.t.toNat:Nat):Int)=x.t∧(nth x.c.threads x.t.toNat).state=0:=⟨by have:=h.t;omega,by have:=h.t;omega,h.st⟩
theorem ziu {p:Prog}{x:Xs}(h:Run p x):ThrI p (nth x.c.threads x.t.toNat):=h.inv.thr _ (Ko h).1
theorem zaz {p:Prog}{x:Xs}(h:Run p x){r:Int}{k:Nat}(hk:k<yv p r):(zJ x.c r k).count x.t=0:=by
 have:=h.inv.zero (Ko h).1 (.inl ⟨rfl,h.st⟩) (r:=r) (k:=k) hk
 rwa [(Ko h).2.1] at this
theorem ziq {p:Prog}{x:Xs}(h:Run p x){st on:Int}(hst:st=1∧x.c.now<on∧on≤1073741824∨st=2∧0≤on∧on<x.c.threads.length∧on≠x.t∧(at' x.c.threads on).state≠9)(hp:MayP p):Res p x (yj x x.t st on):=by
 obtain⟨h1,h2,h3⟩:=Ko h
 have hi:=ziu h
 have h32:=hp.threads.2
 have hn:=h.inv.nthr.2
 refine⟨h.inv.change h1 (th:={nth x.c.threads x.t.toNat with state:=st,on:=on }) rfl (h.inv.len.thr _) rfl ⟨by simp;omega,hi.code,hi.fr,hi.sk,hi.frs,hi.sks,fun h=>by simp at h;omega,fun _=>hi.live (by omega)⟩ (.inl rfl) (.inl rfl) (fun _=>?_) (fun e=>by omega) ?_ (fun r k u hu=>.inr hu) (fun r k u _ _=>rfl) (fun r k hk=>?_) (h.inv.things.thr _),rfl,rfl,fun _ h=>.inl h,Nat.le_of_eq (vb x x.t st on).symm⟩
 ·exact⟨fun h=>by simp at h;omega,fun h=>by simp at h ⊢;omega,fun h=>by simp at h ⊢;omega,fun h h'=>by simp at h h';omega,fun h=>by simp at h;omega⟩
 ·rcases hst with hst | hst
  ·exact h.inv.join.set (by simp;omega) (.inl (by simp;omega))
  ·suffices hJ:wI noD (x.c.threads.set x.t.toNat {nth x.c.threads x.t.toNat with state:=st,on:=on }) from hJ
   intro k hk hs
   rw[List.length_set] at hk
   have goal:∀ {on':Int},0≤on'→on'<x.c.threads.length→on'≠k→(at' x.c.threads on').state≠9→0≤on'∧on'<((x.c.threads.set x.t.toNat {nth x.c.threads x.t.toNat with state:=st,on:=on }).length:Int)∧on'≠k∧((at' (x.c.threads.set x.t.toNat {nth x.c.threads x.t.toNat with state:=st,on:=on }) on').state≠9∨noD k on'):=fun {on'} q1 q2 q3 q4=>by
    rw[List.length_set]
    refine⟨q1,q2,q3,.inl ?_⟩
    unfold at' at q4 ⊢
    rw[zN];split
    ·show st≠9;omega
    ·exact q4
   have hn:nth (x.c.threads.set x.t.toNat {nth x.c.threads x.t.toNat with state:=st,on:=on }) k=if x.t.toNat=k∧x.t.toNat<x.c.threads.length then {nth x.c.threads x.t.toNat with state:=st,on:=on } else nth x.c.threads k:=zN _ _ _ _
   by_cases e:x.t.toNat=k∧x.t.toNat<x.c.threads.length
   ·rw[if_pos e] at hn
    rw[hn]
    exact goal hst.2.1 hst.2.2.1 (by simp;omega) hst.2.2.2.2
   ·rw[if_neg e] at hn
    rw[hn] at hs ⊢
    obtain⟨q1,q2,q3,q4⟩:=h.inv.join k hk hs
    exact goal q1 q2 q3 (q4.resolve_right id)
 ·rw[if_neg (by omega),Xt (by simp;omega) _ hk,h2]
  exact zaz h hk
theorem zkz {p:Prog}(hp:MayP p){x:Xs}(h:Run p x)(v:Int):Res p x (zaT x v):=by
 unfold zaT
 split
 ·exact zhW hp h (by omega) (by omega)
 ·split
  ·exact zey hp h _
  ·exact ziq h (.inr ⟨rfl,by omega,by omega,by omega,by assumption⟩) hp
theorem JF {p:Prog}{x:Xs}(h:Run p x){c':Cor}{r a:Int}(h0:0≤a)(hk:a.toNat<yv p r)(hrow:∀ r' k',zJ c' r' k'=if r'=r∧k'=a.toNat then zJ x.c r a.toNat++[x.t] else zJ x.c r' k')
  (hth:c'.threads=x.c.threads) (hlen:LenI p c') (hnow:c'.now=x.c.now) (hI:ThingsI p x.c.threads.length c'):Res p x (yj {x with c:=c' } x.t r a):=by
 obtain⟨h1,h2,h3⟩:=Ko h
 refine⟨h.inv.enter h1 (.inl ⟨rfl,h3⟩) (by omega) hk (c':=(yj {x with c:=c' } x.t r a).c) (fun r' k'=>?_) ?_ (hlen.thr _) hnow (hI.thr _),rfl,rfl,fun _ h=>.inl h,?_⟩
 ·rw[h2];exact hrow r' k'
 ·show c'.threads.set x.t.toNat {nth c'.threads x.t.toNat with state:=r,on:=a } = _
  rw[hth,show ((a.toNat:Nat):Int)=a by omega]
 ·show x.c.threads.length≤(c'.threads.set _ _).length
  rw[List.length_set,hth];exact Nat.le_refl _
theorem zcn {p:Prog}{x:Xs}(h:Inv p (-1) noD x.c){c':Cor}(hth:c'.threads=x.c.threads)(hnow:c'.now=x.c.now)(hlen:LenI p c')(hrow:∀ r k,zJ c' r k=zJ x.c r k)(hI:ThingsI p x.c.threads.length c'):Res p x {x with c:=c' }:=
 ⟨h.same hth hnow hlen hrow hI,rfl,rfl,fun _ h=>.inl h,by show _≤c'.threads.length;rw[hth];exact Nat.le_refl _⟩
theorem zkt {p:Prog}{x:Xs}(h:Run p x){a:Int}(h0:0≤a)(h1:a<p.mutexes):Res p x (if (vG x.c a x.t).2=true then {x with c:=(vG x.c a x.t).1 } else yj {x with c:=(vG x.c a x.t).1 } x.t 3 a):=by
 have hl:=h.inv.len
 unfold vG
 by_cases ho:0≤at' x.c.owners a
 ·simp only[if_pos ho,Bool.false_eq_true,if_false]
  refine JF h h0 (by simp[yv];omega) (fun r' k'=>?_) rfl (hl.lockq' _ _) rfl (h.inv.things.lockset _ _ (by show at' x.c.owners a≠ -1;omega))
  rw[Xa (by rw[hl.lockq];omega)];simp[zJ,at']
 ·simp only[if_neg ho,if_true]
  exact zcn h.inv rfl rfl (hl.owners' _ _) (fun _ _=>rfl) (h.inv.things.owner _ h.t.1 h.t.2)
theorem zbT {p:Prog}{c:Cor}{ex:Int}(hex:ex = -1)(h:Inv p ex noD c){m t:Int}(h0:0≤m)(h1:m<p.mutexes)(ho:at' c.owners m=t)(ht:0≤t) :
  ((zf c m t).2.2=0)∧(zf c m t).1.threads=c.threads∧(((zf c m t).2.1 = -1∧Inv p (-1) noD (zf c m t).1)∨
   ((0≤(zf c m t).2.1∧(zf c m t).2.1<c.threads.length∧(at' c.threads (zf c m t).2.1).state≠9∧(at' c.threads (zf c m t).2.1).state≠0)∧Inv p (zf c m t).2.1 noD (zf c m t).1)):=by
 subst hex
 have hl:=h.len
 unfold zf
 rw[if_neg (by omega)]
 by_cases hq:0<(at' c.lockq m).length
 ·simp only[if_pos hq]
  refine⟨trivial,trivial,.inr ?_⟩
  have hhd:zJ c 3 m.toNat=nth (at' c.lockq m) 0 :: (at' c.lockq m).drop 1:=by
   show nth c.lockq m.toNat=_
   exact YL hq
  have hmem:=h.mem 3 m.toNat (nth (at' c.lockq m) 0) (by rw[hhd];simp)
  have hlt:m.toNat<c.owners.length:=by rw[hl.owners];omega
  have hI:ThingsI p c.threads.length {c with owners:=c.owners.set m.toNat (nth (at' c.lockq m) 0),lockq:=c.lockq.set m.toNat ((at' c.lockq m).drop 1) }:=
   (h.things.owner m.toNat hmem.1 hmem.2).lockset m.toNat _ (by show nth (c.owners.set _ _) _≠ -1;rw[wC hlt];omega)
  exact h.leave (r:=3) (k:=m.toNat) (by simp[yv];omega) (by omega) hhd (fun r' k'=>by
   show zJ {c with lockq:=c.lockq.set m.toNat _ } r' k'=_
   rw[Xa (by rw[hl.lockq];omega)]) rfl ((hl.owners' _ _).lockq' _ _) rfl hI
 ·simp only[if_neg hq]
  have hq0:nth c.lockq m.toNat=[]:=List.length_eq_zero_iff.1 (by unfold at' at hq;omega)
  exact⟨trivial,trivial,.inl ⟨trivial,h.same rfl rfl (hl.owners' _ _) (fun _ _=>rfl) (h.things.free _ hq0)⟩⟩
theorem zbN {p:Prog}(hp:MayP p){x:Xs}(h:Run p x){a:Int}(h0:0≤a)(h1:a<p.mutexes):Res p x (if (zf x.c a x.t).2.2=0 then yO {x with c:=(zf x.c a x.t).1 } (zf x.c a x.t).2.1 [] else endF x x.t 4):=by
 by_cases ho:at' x.c.owners a=x.t
 ·obtain⟨e1,e2,e3⟩:=zbT rfl h.inv h0 h1 ho h.t.1
  rw[if_pos e1]
  rcases e3 with ⟨e3,e4⟩ | ⟨e3,e4⟩
  ·rw[e3,wZ _ (by omega)]
   exact⟨e4,rfl,rfl,fun _ h=>.inl h,by show _≤(zf x.c a x.t).1.threads.length;rw[e2];exact Nat.le_refl _⟩
  ·have:=zaq hp (x:={x with c:=(zf x.c a x.t).1 }) e4 e3.1 (by show _<((zf x.c a x.t).1.threads.length:Int);rw[e2];exact e3.2.1) []
   exact⟨this.inv,this.p,this.t,this.woken,by have:=this.len;rw[show ({x with c:=(zf x.c a x.t).1 } : Xs).c.threads.length=x.c.threads.length from by show (zf x.c a x.t).1.threads.length=_;rw[e2]] at this;exact this⟩
 ·have e:(zf x.c a x.t).2.2=10:=by unfold zf;rw[if_pos ho]
  rw[e,if_neg (by omega)]
  exact zhW hp h (by omega) (by omega)
theorem zkT {p:Prog}(hp:MayP p){x:Xs}(h:Run p x){a:Int}(h0:0≤a)(h1:a<p.conds.length) :
  Res p x (if (xN x.c a (at' p.conds a) x.t).2.2=0 then yj (yO {x with c:=(xN x.c a (at' p.conds a) x.t).1 } (xN x.c a (at' p.conds a) x.t).2.1 []) x.t 4 a else endF x x.t 4):=by
 have hm:=hp.conds.2 _ (uh h0 h1)
 generalize at' p.conds a=m at *
 by_cases ho:at' x.c.owners m=x.t
 ·obtain⟨e1,e2,e3⟩:=zbT rfl h.inv hm.1 hm.2 ho h.t.1
  have hl:=h.inv.len
  have hw:(xN x.c a m x.t)=({(zf x.c m x.t).1 with waitq:=(zf x.c m x.t).1.waitq.set a.toNat (at' (zf x.c m x.t).1.waitq a++[x.t]) },(zf x.c m x.t).2.1,(zf x.c m x.t).2.2):=by
   unfold xN;rw[if_neg (by omega)]
  rw[hw]
  simp only[e1,if_true]
  have hres:Res p x (yO {x with c:=(zf x.c m x.t).1 } (zf x.c m x.t).2.1 []):=by
   have:=zbN hp h hm.1 hm.2
   rwa [if_pos e1] at this
  have hx2:Run p (yO {x with c:=(zf x.c m x.t).1 } (zf x.c m x.t).2.1 []):=by
   refine⟨hres.inv,hres.p.trans h.p,⟨by rw[hres.t];exact h.t.1,by rw[hres.t];have:=h.t.2;have:=hres.len;omega⟩,?_⟩
   rw[hres.t]
   rcases e3 with ⟨e3,e4⟩ | ⟨e3,e4⟩
   ·rw[e3,wZ _ (by omega)]
    show (at' (zf x.c m x.t).1.threads x.t).state=0
    rw[e2];exact h.st
   ·rw[vB _ e3.1 (by show _<((zf x.c m x.t).1.threads.length:Int);rw[e2];exact e3.2.1)]
    show (nth (yd (zf x.c m x.t).1 (zf x.c m x.t).2.1 _).threads x.t.toNat).state=0
    rw[Kf e3.1 (by rw[e2];exact e3.2.1)]
    split
    ·rfl
    ·rw[e2];exact h.st
  have hE:∀ (w:Int),(w<0∨(0≤w∧w<(zf x.c m x.t).1.threads.length))→yO {x with c:={(zf x.c m x.t).1 with waitq:=(zf x.c m x.t).1.waitq.set a.toNat (at' (zf x.c m x.t).1.waitq a++[x.t]) } } w [] =
    {yO {x with c:=(zf x.c m x.t).1 } w [] with c:={(yO {x with c:=(zf x.c m x.t).1 } w []).c with waitq:=(yO {x with c:=(zf x.c m x.t).1 } w []).c.waitq.set a.toNat (at' (yO {x with c:=(zf x.c m x.t).1 } w []).c.waitq a++[x.t]) } }:=fun w hw=>by
   rcases hw with hw | hw
   ·rw[wZ _ hw,wZ _ hw]
   ·rw[vB _ hw.1 hw.2,vB _ hw.1 hw.2];rfl
  rw[hE _ (e3.elim (fun e3=>.inl (by omega)) fun e3=>.inr ⟨e3.1.1,by rw[e2];exact e3.1.2.1⟩)]
  have ht:=hres.t
  have ht2:(yO {x with c:=(zf x.c m x.t).1 } (zf x.c m x.t).2.1 []).t=x.t:=ht
  refine hres.trans ?_
  generalize yO {x with c:=(zf x.c m x.t).1 } (zf x.c m x.t).2.1 []=y at *
  rw[← ht2]
  have hly:=hx2.inv.len
  refine JF hx2 h0 (by simp[yv];omega) (fun r' k'=>?_) rfl (hly.waitq' _ _) rfl (hx2.inv.things.waits _)
  rw[zct (by rw[hly.waitq];omega)];simp[zJ,at']
 ·have e:(xN x.c a m x.t).2.2=10:=by unfold xN zf;rw[if_pos ho];rfl
  rw[e,if_neg (by omega)]
  exact zhW hp h (by omega) (by omega)
theorem QD {p:Prog}(hp:MayP p){x:Xs}(h:Inv p (-1) noD x.c){a m:Int}(h0:0≤a)(h1:a<p.conds.length)(hm0:0≤m)(hm1:m<p.mutexes)(hq:(at' x.c.waitq a).length≠0):Res p x (yL m a x)∧((yL m a x).c.waitq=x.c.waitq.set a.toNat ((at' x.c.waitq a).drop 1)):=by
 have hl:=h.len
 have hhd:zJ x.c 4 a.toNat=nth (at' x.c.waitq a) 0 :: (at' x.c.waitq a).drop 1:=by
  show nth x.c.waitq a.toNat=_
  exact YL (by unfold at' at hq;omega)
 obtain⟨hw,hlv⟩:=h.leave (r:=4) (k:=a.toNat) (c':={x.c with waitq:=x.c.waitq.set a.toNat ((at' x.c.waitq a).drop 1) }) (by simp[yv];omega) (by omega) hhd (fun r' k'=>zct (by rw[hl.waitq];omega) _ _ _) rfl (hl.waitq' _ _) rfl (h.things.waits _)
 unfold yL yk
 rw[if_neg hq]
 simp only
 generalize nth (at' x.c.waitq a) 0=w at *
 obtain⟨w,rfl⟩:∃ n:Nat,w=n:=⟨w.toNat,by omega⟩
 unfold vG
 by_cases ho:0≤at' x.c.owners m
 ·simp only[if_pos ho,Bool.false_eq_true,if_false]
  have hl2:=hlv.len
  refine⟨⟨hlv.enter (t:=w) (by have:=hw.2.1;simpa using this) (.inr rfl) hw.2.2.1 (r:=3) (k:=m.toNat) (by simp[yv];omega) (fun r' k'=>?_) ?_ ((hl2.lockq' _ _).thr _) rfl ((hlv.things.lockset m.toNat (at' x.c.lockq m++[(w:Int)]) (by show at' x.c.owners m≠ -1;omega)).thr _),rfl,rfl,fun _ h=>.inl h,?_⟩,rfl⟩
  ·show zJ {({x.c with waitq:=x.c.waitq.set a.toNat ((at' x.c.waitq a).drop 1) } : Cor) with lockq:=x.c.lockq.set m.toNat (at' x.c.lockq m++[(w:Int)]) } r' k'=_
   rw[Xa (c:={x.c with waitq:=x.c.waitq.set a.toNat ((at' x.c.waitq a).drop 1) }) (by show _<x.c.lockq.length;rw[hl.lockq];omega)]
   simp[zJ,at']
  ·show x.c.threads.set _ _=x.c.threads.set _ _
   rw[show ((m.toNat:Nat):Int)=m by omega];rfl
  ·exact Nat.le_of_eq (vb _ _ _ _).symm
 ·simp only[if_neg ho,if_true]
  have hI:Inv p w noD {({x.c with waitq:=x.c.waitq.set a.toNat ((at' x.c.waitq a).drop 1) } : Cor) with owners:=x.c.owners.set m.toNat (w:Int) }:=
   hlv.same rfl rfl (hlv.len.owners' _ _) (fun _ _=>rfl) (hlv.things.owner m.toNat hw.1 hw.2.1)
  have:=zaq hp (x:={x with c:={x.c with waitq:=x.c.waitq.set a.toNat ((at' x.c.waitq a).drop 1),owners:=x.c.owners.set m.toNat (w:Int) } }) hI hw.1 hw.2.1 []
  refine⟨⟨this.inv,this.p,this.t,this.woken,this.len⟩,?_⟩
  rw[vB {x with c:={x.c with waitq:=x.c.waitq.set a.toNat ((at' x.c.waitq a).drop 1),owners:=x.c.owners.set m.toNat (w:Int) } } hw.1 hw.2.1];rfl
theorem zkO {p:Prog}(hp:MayP p)(kind:Int){a m:Int}(h0:0≤a)(h1:a<p.conds.length)(hm0:0≤m)(hm1:m<p.mutexes):∀ (n:Nat) {x:Xs},Inv p (-1) noD x.c→Res p x (sigX kind m a n x)
 | 0,x,h=>.refl h
 | n+1,x,h=>by
  unfold sigX
  split
  ·exact .refl h
  ·rename_i hq
   have h1':=(QD hp h h0 h1 hm0 hm1 hq).1
   split
   ·exact h1'
   ·exact h1'.trans (zkO hp kind h0 h1 hm0 hm1 n h1'.inv)
theorem zkp {p:Prog}(hp:MayP p){x:Xs}(h:Run p x){q:Req}(hq:ReqI p q)(hk:q.kind=6∨q.kind=7∨q.kind=8∨q.kind=9∨q.kind=10):Res p x (vf x q.kind q.a):=by
 obtain e:x.p=p:=h.p
 subst e
 unfold vf
 by_cases h6:q.kind=6
 ·rw[if_pos h6]
  have:=hq.mutex (.inl h6)
  exact zkt h this.1 this.2
 rw[if_neg h6]
 by_cases h7:q.kind=7
 ·rw[if_pos h7]
  have:=hq.mutex (.inr h7)
  exact zbN hp h this.1 this.2
 rw[if_neg h7]
 have hc:=hq.cond (by omega)
 by_cases h8:q.kind=8
 ·rw[if_pos h8]
  exact zkT hp h hc.1 hc.2
 rw[if_neg h8]
 have hm:=hp.conds.2 _ (uh hc.1 hc.2)
 exact zkO hp _ hc.1 hc.2 hm.1 hm.2 _ h.inv
theorem zlf {p:Prog}(hp:MayP p){x:Xs}(h:Run p x){kind a:Int}(h0:0≤a)(h1:a<p.semas.length):Res p x (zbC x kind a):=by
 have hl:=h.inv.len
 have hc:=h.inv.things.counts a.toNat (by rw[hl.counts];omega)
 have hs:=h.inv.things.sema a.toNat (by rw[hl.counts];omega)
 unfold zbC
 split
 ·unfold Zy
  by_cases ho:at' x.c.counts a=0
  ·simp only[if_pos ho,Bool.false_eq_true,if_false]
   refine JF h h0 (by simp[yv];omega) (fun r' k'=>?_) rfl (hl.downq' _ _) rfl (h.inv.things.downset _ _ ho)
   rw[zcx (by rw[hl.downq];omega)];simp[zJ,at']
  ·simp only[if_neg ho,if_true]
   unfold at' at ho
   exact zcn h.inv rfl rfl (hl.counts' _ _) (fun _ _=>rfl) (h.inv.things.count _ (by unfold at';omega) (by unfold at';omega) (.inr (hs.resolve_left ho)))
 ·unfold upC
  by_cases hq:(at' x.c.downq a).length=0
  ·rw[if_pos hq]
   have hq0:nth x.c.downq a.toNat=[]:=List.length_eq_zero_iff.1 hq
   split
   ·rw[wZ _ (by omega)]
    exact zcn h.inv rfl rfl (hl.counts' _ _) (fun _ _=>rfl) (h.inv.things.count _ (by unfold at';omega) (by unfold at' at *;omega) (.inr hq0))
   ·rw[wZ _ (by omega)]
    exact .refl h.inv
  ·rw[if_neg hq]
   have hhd:zJ x.c 5 a.toNat=nth (at' x.c.downq a) 0 :: (at' x.c.downq a).drop 1:=by
    show nth x.c.downq a.toNat=_
    exact YL (by unfold at' at hq;omega)
   have h00:nth x.c.counts a.toNat=0:=hs.resolve_right fun e=>hq (by unfold at';rw[e];rfl)
   obtain⟨hw,hlv⟩:=h.inv.leave (r:=5) (k:=a.toNat) (c':={x.c with downq:=x.c.downq.set a.toNat ((at' x.c.downq a).drop 1) }) (by simp[yv];omega) (by omega) hhd (fun r' k'=>zcx (by rw[hl.downq];omega) _ _ _) rfl (hl.downq' _ _) rfl (h.inv.things.downset _ _ h00)
   have:=zaq hp (x:={x with c:={x.c with downq:=x.c.downq.set a.toNat ((at' x.c.downq a).drop 1) } }) hlv hw.1 hw.2.1 []
   exact⟨this.inv,this.p,this.t,this.woken,this.len⟩
end Go.Hb
end
section
namespace Go.Hb
open Go
theorem zgl {l:List Int}{t v:Int}(i:Nat):nth (l++[t,v]) i=if i<l.length then nth l i else if i=l.length then t else if i=l.length+1 then v else 0:=by
 unfold nth
 simp only[List.getD_eq_getElem?_getD]
 by_cases h:i<l.length
 ·rw[if_pos h,List.getElem?_append_left h]
 ·rw[if_neg h,List.getElem?_append_right (by omega)]
  by_cases h2:i=l.length
  ·rw[if_pos h2,h2];simp
  ·rw[if_neg h2]
   by_cases h3:i=l.length+1
   ·rw[if_pos h3,h3];simp
   ·rw[if_neg h3,List.getElem?_eq_none (by simp;omega)];rfl
theorem zfh {α : Type}[Enc α](l:List α)(n i:Nat):nth (l.drop n) i=nth l (n+i):=by simp[nth,List.getD_eq_getElem?_getD]
theorem zdq {l:List Int}{f:Int→Bool}(h:l=[]):l.filter f=[]:=by rw[h];rfl
theorem ZG (L:List (List Int))(f:Int→Bool)(k:Nat):nth (L.map fun l=>l.filter f) k=(nth L k).filter f:=by
 by_cases hk:k<L.length
 ·rw[zK (by simpa using hk),zK hk];simp
 ·rw[uI (by simp;omega),uI (by omega)];rfl
theorem ThingsI.cancel {p:Prog}{n:Nat}{c:Cor}(h:ThingsI p n c)(t:Int):ThingsI p n (xP c t):=by
 refine⟨h.owners,h.counts,h.mutex,h.sema,fun k hk=>?_⟩
 have hc:=h.chan k hk
 show ChanI p k (nth c.bufs k) (nth c.sendq k) (nth (c.recvq.map _) k)
 rw[ZG]
 exact⟨hc.recv.imp zdq id,hc.send,hc.room,hc.bk,hc.even,hc.sk⟩
theorem ChanI.pop {p:Prog}{k:Nat}{b s r:List Int}(h:ChanI p k b s r):s.drop 2=s.drop 2∧(s.drop 2).length%2=0∧∀ i,i*2+1<(s.drop 2).length→ -1073741824≤nth (s.drop 2) (i*2+1)∧nth (s.drop 2) (i*2+1)≤1073741824:=by
 refine⟨rfl,by have:=h.even;rw[List.length_drop];omega,fun i hi=>?_⟩
 rw[List.length_drop] at hi
 rw[zfh,show 2+(i*2+1)=(i+1)*2+1 by omega]
 exact h.sk (i+1) (by omega)
section
variable {p:Prog} {x:Xs} {a:Int}
theorem zkQ (hp:MayP p)(h:Run p x){v:Int}(hv : -1073741824≤v∧v≤1073741824)(h0:0≤a)(h1:a<p.chans.length){q:Req}(hq:q.kind=13)(ha:q.a=a)(hqv:q.v=v):Res p x (Qf x q):=by
 obtain e:x.p=p:=h.p
 subst e
 subst ha;subst hqv
 have hl:=h.inv.len
 have hn:q.a.toNat<x.p.chans.length:=by omega
 have hch:=h.inv.things.chan q.a.toNat hn
 unfold Qf
 rw[if_pos hq]
 simp only
 by_cases hr:0<(at' x.c.recvq q.a).length
 ·have hs:xM x.c q.a (at' x.p.chans q.a) x.t q.v=(xP x.c (nth (at' x.c.recvq q.a) 0),nth (at' x.c.recvq q.a) 0,true):=by unfold xM;rw[if_pos hr]
  rw[hs]
  simp only[Bool.true_eq_false,if_false]
  obtain⟨hw,hcn⟩:=h.inv.cancel (k:=q.a.toNat) (t:=nth (at' x.c.recvq q.a) 0) (by simp[yv];omega) (zm hr) (h.inv.things.cancel _)
  rw[if_neg (by omega)]
  generalize nth (at' x.c.recvq q.a) 0=w at *
  have key:∀ l,Res x.p x (yO {x with c:=xP x.c w } w l):=fun l=>by
   have:=zaq hp (x:={x with c:=xP x.c w }) hcn hw.1 hw.2.1 l
   exact⟨this.inv,this.p,this.t,this.woken,this.len⟩
  split
  ·exact key _
  ·exact key _
 by_cases hb:((at' x.c.bufs q.a).length:Int)<at' x.p.chans q.a
 ·have hs:xM x.c q.a (at' x.p.chans q.a) x.t q.v=({x.c with bufs:=x.c.bufs.set q.a.toNat (at' x.c.bufs q.a++[q.v]) }, -1,true):=by unfold xM;rw[if_neg hr,if_pos hb]
  rw[hs]
  simp only[Bool.true_eq_false,if_false]
  rw[if_pos (by omega)]
  have hr0:nth x.c.recvq q.a.toNat=[]:=List.length_eq_zero_iff.1 (by unfold at' at hr;omega)
  have hs0:nth x.c.sendq q.a.toNat=[]:=hch.send.resolve_right (by unfold at' at hb;omega)
  refine zcn h.inv rfl rfl (hl.bufs' _ _) (fun _ _=>rfl) (h.inv.things.chans (c:=x.c) (B:=x.c.bufs.set q.a.toNat (at' x.c.bufs q.a++[q.v])) (S:=x.c.sendq) (R:=x.c.recvq) fun k hk=>?_)
  rw[zN]
  by_cases e:q.a.toNat=k
  ·subst e
   rw[if_pos ⟨rfl,by rw[hl.bufs];exact hn⟩]
   refine .inr ⟨.inl hr0,.inl hs0,?_,Xh hch.bk (fun y hy=>by simp at hy;subst hy;exact hv),hch.even,hch.sk⟩
   unfold at' at hb ⊢
   simp;omega
  ·rw[if_neg (fun h=>e h.1)]
   exact .inl ⟨rfl,rfl,rfl⟩
 ·have hs:xM x.c q.a (at' x.p.chans q.a) x.t q.v=({x.c with sendq:=x.c.sendq.set q.a.toNat (at' x.c.sendq q.a++[x.t,q.v]) }, -1,false):=by unfold xM;rw[if_neg hr,if_neg hb]
  rw[hs]
  simp only[if_true]
  have hr0:nth x.c.recvq q.a.toNat=[]:=List.length_eq_zero_iff.1 (by unfold at' at hr;omega)
  refine JF h h0 (by simp[yv];omega) (fun r' k'=>?_) rfl (hl.sendq' _ _) rfl (h.inv.things.chans (c:=x.c) (B:=x.c.bufs) (S:=x.c.sendq.set q.a.toNat (at' x.c.sendq q.a++[x.t,q.v])) (R:=x.c.recvq) fun k hk=>?_)
  ·rw[zcl (by rw[hl.sendq];exact hn)];unfold at';rw[zaO _ _ hch.even];simp[zJ]
  ·rw[zN]
   by_cases e:q.a.toNat=k
   ·subst e
    rw[if_pos ⟨rfl,by rw[hl.sendq];exact hn⟩]
    refine .inr ⟨.inl hr0,.inr ?_,hch.room,hch.bk,?_,fun i hi=>?_⟩
    ·have:=hch.room;unfold at' at hb;omega
    ·have:=hch.even;unfold at';simp;omega
    ·have he:=hch.even
     have hsk:=hch.sk i
     unfold at' at hi ⊢
     rw[zgl]
     simp at hi
     split
     ·exact hsk (by omega)
     ·rw[if_neg (by omega),if_pos (by omega)];exact hv
   ·rw[if_neg (fun h=>e h.1)]
    exact .inl ⟨rfl,rfl,rfl⟩
theorem zit {p:Prog}{c:Cor}(h:Inv p (-1) noD c){ch t:Int}(h0:0≤ch)(h1:ch<p.chans.length)(hr:vv c ch=true) :
  (yN c ch t).2.2.2=true∧(yN c ch t).1.threads=c.threads∧(((yN c ch t).2.2.1 = -1∧Inv p (-1) noD (yN c ch t).1)∨
   ((0≤(yN c ch t).2.2.1∧(yN c ch t).2.2.1<c.threads.length∧(at' c.threads (yN c ch t).2.2.1).state≠9∧(at' c.threads (yN c ch t).2.2.1).state≠0)∧Inv p (yN c ch t).2.2.1 noD (yN c ch t).1)):=by
 have hl:=h.len
 have hn:ch.toNat<p.chans.length:=by omega
 have hch:=h.things.chan ch.toNat hn
 have he:=hch.even
 have hpop:=hch.pop.2
 have hrow:∀ {B:List (List Int)},0<(nth c.sendq ch.toNat).length→∀ r' k',zJ {c with bufs:=B,sendq:=c.sendq.set ch.toNat ((nth c.sendq ch.toNat).drop 2) } r' k'=if r'=6∧k'=ch.toNat then vC ((nth c.sendq ch.toNat).drop 2) else zJ c r' k':=fun {B} hs r' k'=>by
  have:=zcl (c:={c with bufs:=B }) (m:=ch.toNat) (by show _<c.sendq.length;rw[hl.sendq];exact hn) ((nth c.sendq ch.toNat).drop 2) r' k'
  exact this
 have hhd:0<(nth c.sendq ch.toNat).length→zJ c 6 ch.toNat=nth (nth c.sendq ch.toNat) 0 :: vC ((nth c.sendq ch.toNat).drop 2):=fun hs=>by
  show vC (nth c.sendq ch.toNat)=_
  exact zdg (by omega)
 have hrb:∀ {B:List (List Int)},(∀ k,k≠ch.toNat→nth B k=nth c.bufs k)→0<(nth c.sendq ch.toNat).length→((nth B ch.toNat).length:Int)=nth p.chans ch.toNat→Qx (nth B ch.toNat)→ThingsI p c.threads.length {c with bufs:=B,sendq:=c.sendq.set ch.toNat ((nth c.sendq ch.toNat).drop 2) }:=fun {B} hB hs hlen hk=>by
  have hr0:nth c.recvq ch.toNat=[]:=hch.recv.resolve_right fun e=>by have:=e.2;rw[this] at hs;simp at hs
  refine h.things.chans (c:=c) (R:=c.recvq) fun k hk'=>?_
  rw[zN]
  by_cases e:ch.toNat=k
  ·subst e
   rw[if_pos ⟨rfl,by rw[hl.sendq];exact hn⟩]
   exact .inr ⟨.inl hr0,.inr hlen,by omega,hk,hpop.1,hpop.2⟩
  ·rw[if_neg (fun h=>e h.1)]
   exact .inl ⟨hB k (fun h=>e h.symm),rfl,rfl⟩
 unfold yN at'
 by_cases hb:0<(nth c.bufs ch.toNat).length
 ·rw[if_pos hb]
  by_cases hs:0<(nth c.sendq ch.toNat).length
  ·rw[if_pos hs]
   have hfull:((nth c.bufs ch.toNat).length:Int)=nth p.chans ch.toNat:=hch.send.resolve_left fun e=>by rw[e] at hs;simp at hs
   have hself:nth (c.bufs.set ch.toNat ((nth c.bufs ch.toNat).drop 1++[nth (nth c.sendq ch.toNat) 1])) ch.toNat=(nth c.bufs ch.toNat).drop 1++[nth (nth c.sendq ch.toNat) 1]:=wC (by rw[hl.bufs];exact hn) _
   have hI:=hrb (B:=c.bufs.set ch.toNat ((nth c.bufs ch.toNat).drop 1++[nth (nth c.sendq ch.toNat) 1])) (fun k hk=>uS (fun e=>hk e.symm) _) hs (by rw[hself];simp;omega) (by
    rw[hself]
    exact Xh (XG hch.bk 1) (fun y hy=>by simp at hy;subst hy;exact hch.sk 0 (by omega)))
   exact⟨rfl,rfl,.inr (h.leave (r:=6) (k:=ch.toNat) (by simp[yv];omega) (by omega) (hhd hs) (hrow hs) rfl ((hl.bufs' _ _).sendq' _ _) rfl hI)⟩
  ·rw[if_neg hs]
   have hs0:nth c.sendq ch.toNat=[]:=List.length_eq_zero_iff.1 (by omega)
   refine⟨rfl,rfl,.inl ⟨rfl,h.same rfl rfl (hl.bufs' _ _) (fun _ _=>rfl) (h.things.chans (c:=c) (S:=c.sendq) (R:=c.recvq) fun k hk=>?_)⟩⟩
   rw[zN]
   by_cases e:ch.toNat=k
   ·subst e
    rw[if_pos ⟨rfl,by rw[hl.bufs];exact hn⟩]
    refine .inr ⟨.inl (hch.recv.resolve_right fun e=>by have:=e.1;rw[this] at hb;simp at hb),.inl hs0,?_,XG hch.bk 1,hch.even,hch.sk⟩
    have:=hch.room
    simp;omega
   ·rw[if_neg (fun h=>e h.1)]
    exact .inl ⟨rfl,rfl,rfl⟩
 ·rw[if_neg hb]
  have hs:0<(nth c.sendq ch.toNat).length:=by unfold vv at' at hr;simp at hr;omega
  rw[if_pos hs]
  have hfull:((nth c.bufs ch.toNat).length:Int)=nth p.chans ch.toNat:=hch.send.resolve_left fun e=>by rw[e] at hs;simp at hs
  have hI:=hrb (B:=c.bufs) (fun k hk=>rfl) hs hfull hch.bk
  exact⟨rfl,rfl,.inr (h.leave (r:=6) (k:=ch.toNat) (by simp[yv];omega) (by omega) (hhd hs) (hrow hs) rfl (hl.sendq' _ _) rfl hI)⟩
theorem zll (hp:MayP p)(h:Run p x){c':Cor}{s:Int}(l:List Int)(hth:c'.threads=x.c.threads)
  (hs:(s = -1∧Inv p (-1) noD c')∨((0≤s∧s<x.c.threads.length∧(at' x.c.threads s).state≠9∧(at' x.c.threads s).state≠0)∧Inv p s noD c')):Res p x (yO (wJ {x with c:=c' } x.t l) s []):=by
 have hinv:∃ ex,Inv p ex noD c':=by
  rcases hs with hs | hs
  ·exact⟨_,hs.2⟩
  ·exact⟨_,hs.2⟩
 obtain⟨ex,hi⟩:=hinv
 have hat:at' c'.threads x.t=at' x.c.threads x.t:=by rw[hth]
 have ht:=zcK (zfT p fu) (D:=noD) (x:={x with c:=c' }) (t:=x.t) (l:=l) h.t.1 (by show x.t<(c'.threads.length:Int);rw[hth];exact h.t.2) (by show (at' c'.threads x.t).state=0;rw[hat];exact h.st) (by show (at' c'.threads x.t).on=0;rw[hat];exact h.on) (Inv.all (x:={x with c:=c' }) hi) (hi.c2 hp) hi.join
 have hlen:(wJ {x with c:=c' } x.t l).c.threads.length=x.c.threads.length:=by
  have:=ht.1.len
  rw[show ({x with c:=c' } : Xs).c.threads.length=x.c.threads.length from congrArg List.length hth] at this
  exact this
 have hwk:∀ w∈(wJ {x with c:=c' } x.t l).woken,w∈x.woken∨(0≤w∧w<x.c.threads.length):=fun w hw=>by
  have:=ht.1.woken w hw
  rw[show ({x with c:=c' } : Xs).c.threads.length=x.c.threads.length from congrArg List.length hth] at this
  exact this
 rcases hs with ⟨rfl,hs⟩ | ⟨hs,hs2⟩
 ·rw[wZ _ (by omega)]
  have:=hs.ev (x:={x with c:=c' }) ht.1 ht.2
  exact⟨this,ht.1.p,ht.1.t,by rw[hlen];exact hwk,by rw[hlen];exact Nat.le_refl _⟩
 ·have hx:=hs2.ev (x:={x with c:=c' }) ht.1 ht.2
  have:=zaq hp (x:=wJ {x with c:=c' } x.t l) hx hs.1 (by rw[hlen];exact hs.2.1) []
  refine⟨this.inv,this.p.trans ht.1.p,this.t.trans ht.1.t,fun w hw=>?_,by have:=this.len;omega⟩
  have hl:=this.len
  rcases this.woken w hw with hw | hw
  ·rcases hwk w hw with hw | hw
   ·exact .inl hw
   ·exact .inr ⟨hw.1,by omega⟩
  ·exact .inr hw
theorem zld (hp:MayP p)(h:Run p x){q:Req}(hq:q.kind=14)(h0:0≤q.a)(h1:q.a<p.chans.length):Res p x (Qf x q):=by
 have hl:=h.inv.len
 unfold Qf
 rw[if_neg (by omega),if_pos hq]
 simp only
 by_cases hr:vv x.c q.a=true
 ·obtain⟨e1,e2,e3⟩:=zit (t:=x.t) h.inv h0 h1 hr
  rw[e1]
  simp only[Bool.true_eq_false,if_false]
  exact zll hp h _ e2 e3
 ·have hn:¬ 0<(at' x.c.bufs q.a).length∧¬ 0<(at' x.c.sendq q.a).length:=by unfold vv at hr;simp at hr;simp[hr]
  have hrc:yN x.c q.a x.t=({x.c with recvq:=x.c.recvq.set q.a.toNat (at' x.c.recvq q.a++[x.t]) },0, -1,false):=by unfold yN;rw[if_neg hn.1,if_neg hn.2]
  rw[hrc]
  simp only[if_true]
  have hb0:nth x.c.bufs q.a.toNat=[]:=List.length_eq_zero_iff.1 (by have:=hn.1;unfold at' at this;omega)
  have hs0:nth x.c.sendq q.a.toNat=[]:=List.length_eq_zero_iff.1 (by have:=hn.2;unfold at' at this;omega)
  refine JF h h0 (by simp[yv];omega) (fun r' k'=>?_) rfl (hl.recvq' _ _) rfl (h.inv.things.chans (c:=x.c) (B:=x.c.bufs) (S:=x.c.sendq) (R:=x.c.recvq.set q.a.toNat (at' x.c.recvq q.a++[x.t])) fun k hk=>?_)
  ·rw[zha (by rw[hl.recvq];omega)];simp[zJ,at']
  ·rw[zN]
   by_cases e:q.a.toNat=k
   ·subst e
    have hc:=h.inv.things.chan q.a.toNat hk
    rw[if_pos ⟨rfl,by rw[hl.recvq];exact hk⟩]
    exact .inr ⟨.inr ⟨hb0,hs0⟩,hc.send,hc.room,hc.bk,hc.even,hc.sk⟩
   ·rw[if_neg (fun h=>e h.1)]
    exact .inl ⟨rfl,rfl,rfl⟩
theorem Zi (t:Int):∀ (l:List Int) (q:List (List Int)) (k:Nat),l.Nodup→(∀ y∈l,0≤y∧y<q.length)→nth (yt q l t) k=nth q k++if (k:Int)∈l then [t] else []
 | [],q,k,_,_=>by simp[yt]
 | y :: l,q,k,hnd,hin=>by
  have hy:=hin y (by simp)
  show nth (yt (q.set y.toNat (at' q y++[t])) l t) k=_
  rw[Zi t l _ k (List.nodup_cons.1 hnd).2 (fun z hz=>by rw[List.length_set];exact hin z (by simp[hz])),zN]
  by_cases e:y.toNat=k
  ·subst e
   have hn:¬ ((y.toNat:Nat):Int)∈l:=by rw[show ((y.toNat:Nat):Int)=y by omega];exact(List.nodup_cons.1 hnd).1
   rw[if_pos ⟨rfl,by omega⟩,if_neg hn,if_pos (by simp;omega)]
   simp[at']
  ·rw[if_neg (fun h=>e h.1)]
   have:((k:Int)∈y :: l)↔(k:Int)∈l:=by
    simp only[List.mem_cons]
    exact⟨fun h=>h.resolve_left (by omega),.inr⟩
   simp only[this]
theorem KC (t:Int):∀ (l:List Int) (q:List (List Int)),(yt q l t).length=q.length
 | [],q=>rfl
 | y :: l,q=>by
  show (yt (q.set y.toNat (at' q y++[t])) l t).length=_
  rw[KC t l];simp
theorem zgJ (hp:MayP p)(h:Run p x){q:Req}(hq:q.kind=15)(h0:0≤q.a)(h1:q.a<p.choices.length):Res p x (Qf x q):=by
 obtain e:x.p=p:=h.p
 subst e
 have hl:=h.inv.len
 have hcho:=hp.choices.2 _ (uh h0 h1)
 unfold Qf
 rw[if_neg (by omega),if_neg (by omega)]
 simp only
 cases hf:(at' x.p.choices q.a).findIdx? (vv x.c) with
 | some i=>
  have hsel:yI x.c (at' x.p.choices q.a) x.t=((yN x.c (nth (at' x.p.choices q.a) i) x.t).1,(i:Int),(yN x.c (nth (at' x.p.choices q.a) i) x.t).2.1,(yN x.c (nth (at' x.p.choices q.a) i) x.t).2.2.1,true):=by unfold yI;rw[hf]
  rw[hsel]
  simp only[Bool.true_eq_false,if_false]
  obtain⟨hi1,hi2,_⟩:=List.findIdx?_eq_some_iff_getElem.1 hf
  have hmem:nth (at' x.p.choices q.a) i∈at' x.p.choices q.a:=zm hi1
  have hrd:vv x.c (nth (at' x.p.choices q.a) i)=true:=by rw[zK hi1];exact hi2
  obtain⟨e1,e2,e3⟩:=zit (t:=x.t) h.inv (hcho.2.2.2 _ hmem).1 (hcho.2.2.2 _ hmem).2 hrd
  exact zll hp h _ e2 e3
 | none=>
  have hsel:yI x.c (at' x.p.choices q.a) x.t=({x.c with recvq:=yt x.c.recvq (at' x.p.choices q.a) x.t }, -1,0, -1,false):=by unfold yI;rw[hf]
  rw[hsel]
  simp only[if_true]
  have hnr:∀ y∈at' x.p.choices q.a,vv x.c y=false:=fun y hy=>by
   have:=List.findIdx?_eq_none_iff.1 hf y hy
   exact this
  obtain⟨n1,n2,n3⟩:=Ko h
  have hi:=ziu h
  have hw:∀ k,nth (yt x.c.recvq (at' x.p.choices q.a) x.t) k=nth x.c.recvq k++if (k:Int)∈at' x.p.choices q.a then [x.t] else []:=fun k=>Zi x.t _ _ k hcho.1 (fun y hy=>by rw[hl.recvq];exact hcho.2.2.2 y hy)
  have hrow:∀ r k,zJ (yj {x with c:={x.c with recvq:=yt x.c.recvq (at' x.p.choices q.a) x.t } } x.t 8 q.a).c r k=if r=7 then nth x.c.recvq k++(if (k:Int)∈at' x.p.choices q.a then [x.t] else []) else zJ x.c r k:=fun r k=>by
   show zJ {x.c with recvq:=yt x.c.recvq (at' x.p.choices q.a) x.t } r k=_
   rw[Qq,hw]
  have hrow7:∀ k,zJ x.c 7 k=nth x.c.recvq k:=fun k=>by simp[zJ]
  have hlen:LenI x.p {x.c with recvq:=yt x.c.recvq (at' x.p.choices q.a) x.t }:=⟨hl.owners,hl.counts,hl.bufs,hl.lockq,hl.waitq,hl.downq,hl.sendq,by show (yt _ _ _).length=_;rw[KC];exact hl.recvq⟩
  refine⟨h.inv.change n1 (th:={nth x.c.threads x.t.toNat with state:=8,on:=q.a }) rfl (hlen.thr _) rfl ⟨by simp,hi.code,hi.fr,hi.sk,hi.frs,hi.sks,fun h=>by simp at h,fun _=>hi.live (by omega)⟩ (.inl rfl) (.inl rfl) (fun _=>?_) (fun e=>by omega) (h.inv.join.set (by simp) (.inl (by simp))) (fun r k u hu=>?_) (fun r k u hk hu=>?_) (fun r k hk=>?_) (.thr ?_ _),rfl,rfl,fun _ h=>.inl h,?_⟩
  ·exact⟨fun h=>by simp at h,fun h=>by simp at h,fun h=>by simp at h,fun h h'=>by simp at h',fun _=>⟨h0,h1⟩⟩
  ·rw[hrow] at hu
   split at hu
   ·rename_i e
    rcases List.mem_append.1 hu with hu | hu
    ·rw[e,hrow7];exact .inr hu
    ·split at hu
     ·simp at hu;left;rw[hu];exact n2.symm
     ·simp at hu
   ·exact .inr hu
  ·rw[hrow]
   split
   ·rename_i e
    rw[e,hrow7,List.count_append]
    split
    ·rw[List.count_singleton]
     have:(x.t == u)=false:=by simp;omega
     rw[this];simp
    ·simp
   ·rfl
  ·rw[hrow,if_neg (show ¬ ((x.t.toNat:Nat):Int) = -1 by omega),n2]
   have hz:=zaz h hk
   have hr:=Jd hk
   by_cases e:r=7
   ·subst e
    rw[hrow7] at hz
    rw[if_pos rfl,List.count_append,hz]
    unfold want must
    by_cases hm:(k:Int)∈at' x.p.choices q.a
    ·rw[if_pos hm,if_pos (by simp[hm])];simp
    ·rw[if_neg hm,if_neg (by simp[hm])];simp
   ·rw[if_neg e,hz]
    unfold want must
    rw[if_neg]
    simp only[Bool.or_eq_true,decide_eq_true_eq,not_or]
    exact⟨fun h=>by have:=h.1;omega,fun h=>e h.2.1⟩
  ·refine h.inv.things.chans (c:=x.c) (B:=x.c.bufs) (S:=x.c.sendq) (R:=yt x.c.recvq (at' x.p.choices q.a) x.t) fun k hk=>?_
   rw[hw]
   by_cases hm:(k:Int)∈at' x.p.choices q.a
   ·have hnr:=hnr _ hm
    have hc:=h.inv.things.chan k hk
    unfold vv at' at hnr
    simp at hnr
    rw[hnr.1,hnr.2] at hc ⊢
    exact .inr ⟨.inr ⟨rfl,rfl⟩,hc.send,hc.room,hc.bk,hc.even,hc.sk⟩
   ·rw[if_neg hm]
    exact .inl ⟨rfl,rfl,by simp⟩
  ·exact Nat.le_of_eq (vb _ _ _ _).symm
end
end Go.Hb
end
section
namespace Go.Hb
open Go
theorem zkF {p:Prog}(hp:MayP p){x:Xs}(h:Run p x){q:Req}(hq:ReqI p q):Res p x (Qh x q):=by
 unfold Qh
 have hk:=hq.kind
 rw[if_neg hk.2.2]
 by_cases h3:q.kind=3
 ·rw[if_pos h3];have:=hq.spawn h3;exact ziZ hp h this.1 this.2
 rw[if_neg h3]
 by_cases h4:q.kind=4
 ·rw[if_pos h4]
  split
  ·rename_i hlt
   exact ziq h (.inl ⟨rfl,hlt,(Zl _).2⟩) hp
  ·exact .refl h.inv
 rw[if_neg h4]
 by_cases h5:q.kind=5
 ·rw[if_pos h5];exact zkz hp h _
 rw[if_neg h5]
 by_cases h6:q.kind=6∨q.kind=7∨q.kind=8∨q.kind=9∨q.kind=10
 ·rw[if_pos h6];exact zkp hp h hq h6
 rw[if_neg h6]
 by_cases h11:q.kind=11∨q.kind=12
 ·rw[if_pos h11];have:=hq.sema h11;exact zlf hp h this.1 this.2
 rw[if_neg h11]
 by_cases h13:q.kind=13∨q.kind=14∨q.kind=15
 ·rw[if_pos h13]
  rcases h13 with h13 | h13 | h13
  ·have:=hq.chan (.inl h13);exact zkQ hp h hq.v this.1 this.2 h13 rfl rfl
  ·have:=hq.chan (.inr h13);exact zld hp h h13 this.1 this.2
  ·have:=hq.choice h13;exact zgJ hp h h13 this.1 this.2
 rw[if_neg h13]
 split
 ·exact zkC h.inv _ _ _
 ·exact .refl h.inv
theorem zda (p:Prog)(c:Cor)(t:Int)(y:Thr)(code:Int):endF ⟨p,yd c t y,t,[],[]⟩ t code=endF ⟨p,c,t,[],[]⟩ t code:=by
 unfold endF fu
 rw[um,um]
 have:end0 ⟨p,yd c t y,t,[],[]⟩ t code=end0 ⟨p,c,t,[],[]⟩ t code:=by
  unfold end0 yd
  simp
 rw[this]
theorem run0 {p:Prog}{c:Cor}(h:Inv p (-1) noD c){t:Int}(h0:0≤t)(h1:t<c.threads.length)(hs:(at' c.threads t).state=0):Run p ⟨p,c,t,[],[]⟩:=⟨h,rfl,⟨h0,h1⟩,hs⟩
theorem run1 {p:Prog}{c:Cor}(h:Inv p (-1) noD c){t:Int}(h0:0≤t)(h1:t<c.threads.length)(hs:(at' c.threads t).state=0){th:Thr}(hg:Goes p (at' c.threads t) th):Run p ⟨p,yd c t th,t,[],[]⟩:=by
 have hon:=(run0 h h0 h1 hs).on
 have hv:=zcE (p:=p) (x:=⟨p,c,t,[],[]⟩) (t:=t) (th:=th) h0 h1 (.inr ⟨.inl hs,hg.i,.inl (hg.st.trans hs),hg.on.trans hon⟩)
 refine⟨h.ev (x:=⟨p,c,t,[],[]⟩) (y:=⟨p,yd c t th,t,[],[]⟩) hv (h.join.set ?_ (.inl ?_)),rfl,⟨h0,by show t<((c.threads.set _ _).length:Int);rw[List.length_set];exact h1⟩,?_⟩
 ·rw[hg.st.trans hs];omega
 ·rw[hg.st.trans hs];omega
 ·show (at' (c.threads.set t.toNat th) t).state=0
  rw[zcz h0 h1];exact hg.st.trans hs
structure StepR (p:Prog)(c:Cor)(y:Xs):Prop where
 inv:Inv p (-1) noD y.c
 woken:∀ w∈y.woken,0≤w∧w<y.c.threads.length
 len:c.threads.length≤y.c.threads.length
theorem zin {p:Prog}(hp:MayP p){c:Cor}(h:Inv p (-1) noD c){t:Int}(h0:0≤t)(h1:t<c.threads.length)(hs:(at' c.threads t).state=0):StepR p c (uj p c t):=by
 unfold uj
 have hth:=h.thr t.toNat (by omega)
 have key:∀ {y:Xs} {x:Xs},Res p x y→x.woken=[]→x.c.threads.length=c.threads.length→StepR p c y:=fun {y x} hr hw hl=>
  ⟨hr.inv,fun w hw'=>by
   rcases hr.woken w hw' with h | h
   ·rw[hw] at h;simp at h
   ·exact h,by rw[← hl];exact hr.len⟩
 rcases zcm hp hth (by show (at' c.threads t).state≠9;omega) with ⟨code,c0,c1,e⟩ | ⟨hg,hq⟩
 ·have e:xU p (at' c.threads t)=ends code:=e
  rw[e]
  show StepR p c (Qh ⟨p,yd c t (zO code),t,[],[]⟩ ⟨1,0,code⟩)
  unfold Qh
  rw[if_pos rfl]
  show StepR p c (endF ⟨p,yd c t (zO code),t,[],[]⟩ t code)
  rw[zda]
  exact key (zhW hp (run0 h h0 h1 hs) c0 c1) rfl rfl
 ·exact key (zkF hp (run1 h h0 h1 hs hg) hq) rfl (by show (c.threads.set _ _).length=_;rw[List.length_set])
theorem zeR {p:Prog}(hp:MayP p){c:Cor}(h:Inv p (-1) noD c)(t:Int):Inv p (-1) noD (XA p c t).1:=by
 unfold XA
 split
 ·exact h
 ·split
  ·exact h
  ·exact(zin hp h (by omega) (by omega) (by omega)).inv
def is1 (t:Thr):Bool:=decide (t.state=1)
def DueP (c:Cor)(f:Int):Prop:=f<0∨(0≤f∧f<c.threads.length∧(at' c.threads f).state=1∧(at' c.threads f).on≤c.now)
theorem Xl (c:Cor):∀ (l:List Nat) (f:Int),(∀ t∈l,t<c.threads.length)→DueP c f→DueP c (l.foldl (un c) f)∧(l.foldl (un c) f<0→f<0∧∀ t∈l,¬ ((nth c.threads t).state=1∧(nth c.threads t).on≤c.now))
 | [],f,_,hf=>⟨hf,fun h=>⟨h,by simp⟩⟩
 | t :: l,f,hl,hf=>by
  have ht:=hl t (by simp)
  have h1:DueP c (un c f t):=by
   unfold un
   split
   ·rename_i h;exact .inr ⟨by omega,by omega,h.1,h.2.1⟩
   ·exact hf
  have ih:=Xl c l (un c f t) (fun u hu=>hl u (by simp[hu])) h1
  rw[List.foldl_cons]
  refine⟨ih.1,fun h=>?_⟩
  obtain⟨q1,q2⟩:=ih.2 h
  unfold un at q1
  split at q1
  ·omega
  ·rename_i hn
   refine⟨q1,fun u hu=>?_⟩
   rcases List.mem_cons.1 hu with rfl | hu
   ·exact fun h=>hn ⟨h.1,h.2,.inl q1⟩
   ·exact q2 u hu
theorem ziU (c:Cor):DueP c (yQ c)∧(yQ c<0→∀ t,t<c.threads.length→(nth c.threads t).state=1→c.now<(nth c.threads t).on):=by
 have h:=Xl c (List.range c.threads.length) (-1) (by simp) (.inl (by omega))
 refine⟨h.1,fun h0 t ht hs=>?_⟩
 have:=(h.2 h0).2 t (by simpa using ht)
 have:¬ (nth c.threads t).on≤c.now:=fun h=>this ⟨hs,h⟩
 omega
structure TickI (p:Prog)(now0:Int)(c:Cor):Prop where
 inv:Inv p (-1) noD {c with now:=now0 }
 now:0≤c.now∧c.now≤1073741824
theorem zcF {p:Prog}{now0:Int}{c:Cor}(h:TickI p now0 c){t:Int}(h0:0≤t)(h1:t<c.threads.length)(hs:(at' c.threads t).state=1):TickI p now0 (yd c t {at' c.threads t with state:=0,on:=0 }):=by
 obtain⟨t,rfl⟩:∃ n:Nat,t=n:=⟨t.toNat,by omega⟩
 have ht:t<c.threads.length:=by omega
 have hi:=h.inv
 have hth:=hi.thr t ht
 have hs':(nth c.threads t).state=1:=hs
 refine⟨?_,h.now⟩
 refine hi.change (c':={yd c t {at' c.threads (t:Int) with state:=0,on:=0 } with now:=now0 }) ht (th:={nth c.threads t with state:=0,on:=0 }) rfl ⟨hi.len.owners,hi.len.counts,hi.len.bufs,hi.len.lockq,hi.len.waitq,hi.len.downq,hi.len.sendq,hi.len.recvq⟩ rfl (zfX hth (by show (nth c.threads t).state≠9;omega)) (.inl rfl) (.inl rfl)
  (fun _=>⟨fun _=>rfl,fun h=>by simp at h,fun h=>by simp at h,fun h _=>by simp at h,fun h=>by simp at h⟩) (fun e=>by omega) (hi.join.set (by simp) (.inl (by simp))) (fun r' k' u hu=>.inr hu) (fun r' k' u hk' hu=>rfl) (fun r' k' hk'=>?_) ⟨hi.things.owners,hi.things.counts,hi.things.mutex,hi.things.sema,hi.things.chan⟩
 rw[if_neg (by omega),Xt (by simp) _ hk']
 have:=hi.cnt r' k' t hk' ht
 rw[if_neg (by omega),Xt (by show (nth c.threads t).state<3∨_;omega) _ hk'] at this
 exact this
theorem zeD {p:Prog}{now0:Int} : ∀ (n:Nat) (c:Cor) (w:List Int),c.threads.countP is1<n→TickI p now0 c→Inv p (-1) noD (zcS n c w).1
 | 0,c,w,h,_=>by omega
 | n+1,c,w,h,hi=>by
  unfold zcS
  have hd:=ziU c
  split
  ·rename_i h0
   have hd2:=hd.2 h0
   have hv:=hi.inv
   exact⟨⟨hv.len.owners,hv.len.counts,hv.len.bufs,hv.len.lockq,hv.len.waitq,hv.len.downq,hv.len.sendq,hv.len.recvq⟩,hi.now,hv.nthr,hv.thr,fun t ht hte=>by
    have:=hv.one t ht hte
    exact⟨this.rest,fun hs=>⟨hd2 t ht hs,(this.sleep hs).2⟩,this.join,this.on,this.choice⟩,hv.exs,hv.join,hv.mem,hv.cnt,⟨hv.things.owners,hv.things.counts,hv.things.mutex,hv.things.sema,hv.things.chan⟩⟩
  ·rename_i h0
   obtain⟨q1,q2,q3,q4⟩:=hd.1.resolve_left h0
   refine zeD n _ _ ?_ (zcF hi q1 q2 q3)
   have:=Qt c.threads is1 {at' c.threads (yQ c) with state:=0,on:=0 } (yQ c).toNat (by omega)
   have e1:is1 (nth c.threads (yQ c).toNat)=true:=by unfold is1;exact decide_eq_true q3
   have e2:is1 {at' c.threads (yQ c) with state:=0,on:=0 } = false:=rfl
   rw[if_pos e1,e2,if_neg (by simp)] at this
   refine Nat.lt_of_le_of_lt (Nat.le_of_eq ?_) (show c.threads.countP is1-1<n by omega)
   show (c.threads.set (yQ c).toNat {at' c.threads (yQ c) with state:=0,on:=0 }).countP is1=_
   generalize (c.threads.set (yQ c).toNat {at' c.threads (yQ c) with state:=0,on:=0 }).countP is1=z at *
   omega
theorem zaP {p:Prog}{c:Cor}(h:Inv p (-1) noD c)(n:Int):Inv p (-1) noD (JQ c n).1:=by
 unfold JQ
 refine zeD (now0:=c.now) _ _ _ ?_ ?_
 ·split
  ·show c.threads.countP is1<_;have:c.threads.countP is1≤c.threads.length:=List.countP_le_length;omega
  ·have:c.threads.countP is1≤c.threads.length:=List.countP_le_length;omega
 ·split
  ·rename_i hn
   refine⟨h,?_⟩
   have hk:=Zl (c.now+(if 1073741824<n then 1073741824 else n))
   have hnow:=h.now
   refine⟨?_,hk.2⟩
   show 0≤keep (c.now+(if 1073741824<n then 1073741824 else n))
   unfold keep
   split<;>split<;>(try split)<;>omega
  ·exact⟨h,h.now⟩
theorem zfp {p:Prog}(hp:MayP p){c:Cor}(h:Inv p (-1) noD c)(k:Int):Inv p (-1) noD (QM p c k).1:=by
 unfold QM
 split
 ·split
  ·exact zaP h _
  ·exact h
 ·exact zeR hp h _
theorem zad {p:Prog}(hp:MayP p):∀ (l:List Int) (a:Cor × List Evt),Inv p (-1) noD a.1→Inv p (-1) noD (l.foldl (fun a k=>((QM p a.1 k).1,a.2++(QM p a.1 k).2)) a).1
 | [],a,h=>h
 | k :: l,a,h=>by
  rw[List.foldl_cons]
  exact zad hp l _ (zfp hp h k)
theorem JS {p:Prog}(hp:MayP p){c:Cor}(h:Inv p (-1) noD c)(l:List Int):Inv p (-1) noD (xG p c l).1:=zad hp l (c,[]) h
theorem zfl {α : Type}[Enc α]{n k:Nat}{x:α}(h:k<n):nth (List.replicate n x) k=x:=by rw[zK (by simpa using h)];simp
theorem uR (n k:Nat):nth (List.replicate n ([]:List Int)) k=[]:=by
 by_cases h:k<n
 ·exact zfl h
 ·exact uI (by simp;omega)
theorem QB {p:Prog}(hp:MayP p):Inv p (-1) noD (ye p):=by
 have hn:=zcp hp (f:=0) (by omega) (by have:=hp.funcs;omega)
 have hrow:∀ r k,zJ (ye p) r k=[]:=fun r k=>by
  unfold zJ ye
  simp only[uR]
  repeat' split
  all_goals rfl
 have h1:∀ t,t<(ye p).threads.length→nth (ye p).threads t=zU p 0:=fun t ht=>by
  have:t=0:=by simp[ye] at ht;exact ht
  subst this;rfl
 have hthr:=hp.threads
 refine⟨⟨by simp[ye],rfl,by simp[ye],by simp[ye],by simp[ye],by simp[ye],by simp[ye],by simp[ye]⟩,by simp[ye],⟨by simp[ye],by simp[ye];omega⟩,fun t ht=>by rw[h1 t ht];exact hn,fun t ht _=>?_,fun t _ e=>by omega,fun k hk hs=>?_,fun r k t ht=>by rw[hrow] at ht;simp at ht,fun r k t hk ht=>?_,⟨fun k hk=>?_,fun k hk=>?_,fun k hk=>.inl (uR _ _),fun k hk=>.inr (uR _ _),fun k hk=>?_⟩⟩
 ·rw[h1 t ht];exact⟨fun _=>rfl,fun h=>by simp[zU] at h,fun h=>by simp[zU] at h,fun h=>by simp[zU] at h,fun h=>by simp[zU] at h⟩
 ·rw[h1 k hk] at hs;simp[zU] at hs
 ·rw[hrow,h1 t ht,if_neg (by omega),Xt (by simp[zU]) _ hk];rfl
 ·have e:nth (ye p).owners k = -1:=zfl (by simpa[ye] using hk)
  rw[e];simp[ye]
 ·have:=hp.semas.2 (nth p.semas k) (zm hk)
  show 0≤nth p.semas k∧nth p.semas k≤_
  omega
 ·have e1:nth (ye p).bufs k=[]:=uR _ _
  have e2:nth (ye p).sendq k=[]:=uR _ _
  have e3:nth (ye p).recvq k=[]:=uR _ _
  rw[e1,e2,e3]
  have:=hp.chans.2 (nth p.chans k) (zm hk)
  exact⟨.inl rfl,.inl rfl,by simp;omega,fun x hx=>by simp at hx,rfl,fun i hi=>by simp at hi⟩
end Go.Hb
end
section
namespace Go.Hb
open Go
structure ShC (p:Prog)(c:Cor):Prop where
 b:CorB c
 len:LenI p c
 even:∀ k,k<c.sendq.length→(nth c.sendq k).length%2=0
 choices:p.choices.length≤8∧∀ l∈p.choices,l.length≤8
end Go.Hb
end
section
namespace Go.Hb
open Go
structure ShD (p:Prog)(c:Cor):Prop where
 sh:ShC p c
 mu:0≤p.mutexes
 own:∀ k,k<c.owners.length→ -1≤nth c.owners k
theorem zii {n:Nat}{f:Nat→Bool}{k:Nat}(h:k<n)(hf:f k=false):(List.range n).all f=false:=by
 rw[Bool.eq_false_iff]
 intro h1
 rw[List.all_eq_true] at h1
 have:=h1 k (by simpa using h)
 rw[hf] at this;cases this
theorem zfK {n:Nat}{f:Nat→Bool}(h:∀ k,k<n→f k=true):(List.range n).all f=true:=by
 rw[List.all_eq_true]
 intro k hk
 exact h k (by simpa using hk)
end Go.Hb
end
