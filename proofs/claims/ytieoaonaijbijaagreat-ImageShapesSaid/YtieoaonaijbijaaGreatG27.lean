/-
  A layer for reasoning about the program's calls, and contracts of its functions. CONDITIONS: none; each theorem bears its own.
-/
import Derived.Test.YtieoaonaijbijaaGreatG26
import Derived.Test.YtieoaonaijbijaaGreatG09
import Derived.Test.YtieoaonaijbijaaGreatG18
set_option linter.unusedVariables false
set_option linter.unusedSimpArgs false
section
namespace Go.Hb
open Go Go.Proofs Go.RowKit
set_option maxRecDepth 100000
set_option maxHeartbeats 800000
attribute [-simp] aC aL xq yp zE aIf yr zR aLen zt ya zQ zP lBr aq yP aev zk zw zF zI LV.cells LV.cellsOk getElem?_pos getElem?_neg
instance:DecidableEq Frm:=fun a b=>decidable_of_iff (a.func=b.func∧a.pc=b.pc∧a.locals=b.locals) ⟨fun ⟨h1,h2,h3⟩=>by cases a;cases b;simp_all,fun h=>by subst h;exact⟨rfl,rfl,rfl⟩⟩
instance:DecidableEq Thr:=fun a b=>decidable_of_iff (a.state=b.state∧a.on=b.on∧a.code=b.code∧a.stack=b.stack∧a.frames=b.frames) ⟨fun ⟨h1,h2,h3,h4,h5⟩=>by cases a;cases b;simp_all,fun h=>by subst h;exact⟨rfl,rfl,rfl,rfl,rfl⟩⟩
instance:DecidableEq Cor:=fun a b=>decidable_of_iff (a.now=b.now∧a.threads=b.threads∧a.owners=b.owners∧a.counts=b.counts∧a.lockq=b.lockq∧a.waitq=b.waitq∧a.downq=b.downq∧a.bufs=b.bufs∧a.sendq=b.sendq∧a.recvq=b.recvq)
 ⟨fun ⟨h1,h2,h3,h4,h5,h6,h7,h8,h9,h10⟩=>by cases a;cases b;simp_all,fun h=>by subst h;exact⟨rfl,rfl,rfl,rfl,rfl,rfl,rfl,rfl,rfl,rfl⟩⟩
theorem zky {x y:Frm}(h:x≠y):¬ (x.func=y.func∧x.pc=y.pc∧x.locals=y.locals):=fun ⟨h1,h2,h3⟩=>h (by cases x;cases y;simp_all)
set_option maxHeartbeats 8000000 in
theorem zgx {a b:Thr}(h1:a.frames.length≤1000000)(h2:a.stack.length≤1000000)(h3:∀ f∈a.frames,f.locals.length≤1000000):zM Tryz.prog 121 [.agg a.lv,.agg b.lv] (.bool (decide (a=b))):=by
 obtain⟨st,on,fr,sk,co⟩:=a
 obtain⟨st',on',fr',sk',co'⟩:=b
 simp only[Thr.lv] at *
 have hb:=wH (a:=sk) (b:=sk') (by omega)
 refine .of fun s v=>?_
 by_cases hd:st=st'∧on=on'∧co=co'∧fr.length=fr'.length∧sk=sk'
 ·obtain⟨rfl,rfl,rfl,hl,rfl⟩:=hd
  rw[decide_eq_true rfl] at hb
  have he:decide ((⟨st,on,fr,sk,co⟩:Thr)=⟨st,on,fr',sk,co⟩)=decide (fr=fr'):=by rw[decide_eq_decide];simp
  rw[he]
  have hl':(fr.length:Int)=fr'.length:=by omega
  refine ac0 Tryz.func121 Tryz.ntmps121 ?_
  have hrs:Tryz.f121.results = #[.tmp 4]:=rfl
  repeat' (first|(with_reducible first|refine uk ?_|refine wk ?_ ?_<;>intro _|refine zc hb ?_)|simp -implicitDefEqProofs(disch:=first|assumption|omega)[*])
  refine zC (β:=List AObj) false fr.length (fun k _=>fr.take k=fr'.take k) (fun k _=>[(5,.int .i64 k),(44,.any),(45,.any),(46,.any),(47,.any),(48,.any),(51,.any),(52,.any),(53,.any),(54,.any),(55,.any),(6,.any),(56,.any),(57,.any),(58,.any),(59,.any),(60,.any),(7,.any),(61,.any),(62,.any),(63,.any),(64,.any),(65,.any),(66,.any),(67,.any),(68,.any),(69,.any),(70,.any),(71,.any),(72,.any),(73,.any),(74,.any),(75,.any),(76,.any),(77,.any),(78,.any),(79,.any),(80,.any),(4,.any),(49,.any),(50,.any)]) (fun _ J=>s++(.cells [.int .i64 st,.int .i64 on,row fr,row sk,.int .i64 co] :: .cells [.int .i64 st,.int .i64 on,row fr',row sk,.int .i64 co] :: J)) (fun _ _=>v) ?_ ?_
  ·exact⟨[],by simp,fz0,by simp,rfl⟩
  rintro k J hk hI
  by_cases hlt:k<fr.length
  ·have hlb:k<fr'.length:=by omega
   have hlt':(k:Int)<fr'.length:=by omega
   have hx:=zB (l:=fr) (i:=(k:Int)) (by omega) (by omega)
   have hy:=zB (l:=fr') (i:=(k:Int)) (by omega) (by omega)
   rw[Int.toNat_natCast] at hx hy
   have hc:=wH (a:=(nth fr k).locals) (b:=(nth fr' k).locals) (by have:=h3 _ (zm hlt);omega)
   by_cases hn:nth fr k=nth fr' k
   ·rw[hn] at hc
    rw[decide_eq_true rfl] at hc
    clear hb he h3
    repeat' (first|(with_reducible first|refine uk ?_|refine wk ?_ ?_<;>intro _|refine zc hc ?_)|simp -implicitDefEqProofs(disch:=first|assumption|omega)[*])
    all_goals exact⟨hlt,_,by show fr.take (k+1)=fr'.take (k+1);rw[za hlt,za hlb,hI,hn],fz,rfl,rfl⟩
   ·have hq:=zky hn
    have hdd:¬ fr=fr':=fun e=>hn (by rw[e])
    rw[decide_eq_false hdd]
    clear hb he h3 hI
    by_cases w1:(nth fr k).func=(nth fr' k).func
    ·by_cases w2:(nth fr k).pc=(nth fr' k).pc
     ·have w3:¬ (nth fr k).locals=(nth fr' k).locals:=fun e=>hq ⟨w1,w2,e⟩
      rw[decide_eq_false w3] at hc
      clear hq
      repeat' (first|(with_reducible first|refine uk ?_|refine wk ?_ ?_<;>intro _|refine zc hc ?_)|simp -implicitDefEqProofs(disch:=first|assumption|omega)[*])
      all_goals exact zn.eqat rfl (by simp)
     ·clear hq hc
      repeat' (first|(with_reducible first|refine uk ?_|refine wk ?_ ?_<;>intro _)|simp -implicitDefEqProofs(disch:=first|assumption|omega)[*])
      all_goals exact zn.eqat rfl (by simp)
    ·clear hq hc
     repeat' (first|(with_reducible first|refine uk ?_|refine wk ?_ ?_<;>intro _)|simp -implicitDefEqProofs(disch:=first|assumption|omega)[*])
     all_goals exact zn.eqat rfl (by simp)
  ·have:k=fr.length:=by omega
   subst this
   have hdd:fr=fr':=by rw[List.take_of_length_le (Nat.le_refl _),List.take_of_length_le (by omega)] at hI;exact hI
   clear h3 hI
   repeat' (first|(with_reducible first|refine uk ?_|refine wk ?_ ?_<;>intro _)|simp -implicitDefEqProofs(disch:=first|assumption|omega)[*])
   all_goals exact zn.eqat (by simp[hdd]) (by simp)
 ·have hdd:¬ (⟨st,on,fr,sk,co⟩:Thr)=⟨st',on',fr',sk',co'⟩:=fun e=>hd (by cases e;simp)
  rw[decide_eq_false hdd]
  clear hdd h3
  have hfe:(fr.length=fr'.length)=((fr.length:Int)=fr'.length):=by rw[eq_iff_iff];omega
  rw[hfe] at hd
  clear hfe
  by_cases w1:st=st'
  ·by_cases w2:on=on'
   ·by_cases w3:co=co'
    ·by_cases w4:(fr.length:Int)=fr'.length
     ·have w5:¬ sk=sk':=fun e=>hd ⟨w1,w2,w3,w4,e⟩
      rw[decide_eq_false w5] at hb
      clear hd
      refine ac0 Tryz.func121 Tryz.ntmps121 ?_
      have hrs:Tryz.f121.results = #[.tmp 4]:=rfl
      repeat' (first|(with_reducible first|refine uk ?_|refine wk ?_ ?_<;>intro _|refine zc hb ?_)|simp -implicitDefEqProofs(disch:=first|assumption|omega)[*])
      all_goals exact zn.eqat rfl (by simp)
     all_goals
      clear hd hb
      refine ac0 Tryz.func121 Tryz.ntmps121 ?_
      have hrs:Tryz.f121.results = #[.tmp 4]:=rfl
      repeat' (first|(with_reducible first|refine uk ?_|refine wk ?_ ?_<;>intro _)|simp -implicitDefEqProofs(disch:=first|assumption|omega)[*])
      all_goals exact zn.eqat rfl (by simp)
    all_goals
     clear hd hb
     refine ac0 Tryz.func121 Tryz.ntmps121 ?_
     have hrs:Tryz.f121.results = #[.tmp 4]:=rfl
     repeat' (first|(with_reducible first|refine uk ?_|refine wk ?_ ?_<;>intro _)|simp -implicitDefEqProofs(disch:=first|assumption|omega)[*])
     all_goals exact zn.eqat rfl (by simp)
   all_goals
    clear hd hb
    refine ac0 Tryz.func121 Tryz.ntmps121 ?_
    have hrs:Tryz.f121.results = #[.tmp 4]:=rfl
    repeat' (first|(with_reducible first|refine uk ?_|refine wk ?_ ?_<;>intro _)|simp -implicitDefEqProofs(disch:=first|assumption|omega)[*])
    all_goals exact zn.eqat rfl (by simp)
  all_goals
   clear hd hb
   refine ac0 Tryz.func121 Tryz.ntmps121 ?_
   have hrs:Tryz.f121.results = #[.tmp 4]:=rfl
   repeat' (first|(with_reducible first|refine uk ?_|refine wk ?_ ?_<;>intro _)|simp -implicitDefEqProofs(disch:=first|assumption|omega)[*])
   all_goals exact zn.eqat rfl (by simp)
@[simp] def P42:Nat→Plan
 | 6=>(.qs [0,1,2,3,4,5,6,7,8,9] (.w 10 [] (.qs [11] .nil)))
 | _=>.nil
theorem Ye {a b:List (List Int)}(h:BigR a):zM Tryz.prog 120 [row a,row b] (.bool (decide (a=b))):=zcb (by have:=h.1;omega) fun k hk=>by have:=h.2 _ (zm hk);omega
def zft (c d:Cor):Bool:=decide (c.owners=d.owners) && (decide (c.counts=d.counts) && (decide (c.lockq=d.lockq) && (decide (c.waitq=d.waitq) && decide (c.downq=d.downq))))
def zaE (c d:Cor):Bool:=decide (c.bufs=d.bufs) && (decide (c.sendq=d.sendq) && decide (c.recvq=d.recvq))
theorem zhX {c d:Cor}{n n':Int}{t t':LV}(h:BigC c):zM Tryz.prog 122 [.agg (.int .i64 n :: t :: (Cor.lv c).drop 2),.agg (.int .i64 n' :: t' :: (Cor.lv d).drop 2)] (.bool (zft c d)):=by
 refine .of fun s v=>?_
 have h1:=wH (a:=c.owners) (b:=d.owners) (by have:=h.owners;omega)
 have h2:=wH (a:=c.counts) (b:=d.counts) (by have:=h.counts;omega)
 have h3:=Ye (b:=d.lockq) h.lockq
 have h4:=Ye (b:=d.waitq) h.waitq
 have h5:=Ye (b:=d.downq) h.downq
 unfold zft
 simp only[Cor.lv,List.drop_succ_cons,List.drop_zero]
 generalize decide (c.owners=d.owners)=b1 at *
 generalize decide (c.counts=d.counts)=b2 at *
 generalize decide (c.lockq=d.lockq)=b3 at *
 generalize decide (c.waitq=d.waitq)=b4 at *
 generalize decide (c.downq=d.downq)=b5 at *
 refine ac0 Tryz.func122 Tryz.ntmps122 ?_
 have hrs:Tryz.f122.results = #[.tmp 4]:=rfl
 repeat' (first|(with_reducible first|refine uk ?_|refine wk ?_ ?_<;>intro _|refine And.intro ?_ ?_|refine zc h1 ?_|refine zc h2 ?_|refine zc h3 ?_|refine zc h4 ?_|refine zc h5 ?_)|simp -implicitDefEqProofs(disch:=first|assumption|omega)[*])
 all_goals exact zn.eqat (by simp[*]) (by simp)
theorem zeg {c d:Cor}{n n':Int}{t t':LV}(h:BigC c):zM Tryz.prog 123 [.agg (.int .i64 n :: t :: (Cor.lv c).drop 2),.agg (.int .i64 n' :: t' :: (Cor.lv d).drop 2)] (.bool (zaE c d)):=by
 refine .of fun s v=>?_
 have h3:=Ye (b:=d.bufs) h.bufs
 have h4:=Ye (b:=d.sendq) h.sendq
 have h5:=Ye (b:=d.recvq) h.recvq
 unfold zaE
 simp only[Cor.lv,List.drop_succ_cons,List.drop_zero]
 generalize decide (c.bufs=d.bufs)=b3 at *
 generalize decide (c.sendq=d.sendq)=b4 at *
 generalize decide (c.recvq=d.recvq)=b5 at *
 refine ac0 Tryz.func123 Tryz.ntmps123 ?_
 have hrs:Tryz.f123.results = #[.tmp 4]:=rfl
 repeat' (first|(with_reducible first|refine uk ?_|refine wk ?_ ?_<;>intro _|refine And.intro ?_ ?_|refine zc h3 ?_|refine zc h4 ?_|refine zc h5 ?_)|simp -implicitDefEqProofs(disch:=first|assumption|omega)[*])
 all_goals exact zn.eqat (by simp[*]) (by simp)
theorem ziB (c d:Cor):decide (c=d)=(decide (c.now=d.now) && (decide (c.threads=d.threads) && (zft c d && zaE c d))):=by
 obtain⟨a1,a2,a3,a4,a5,a6,a7,a8,a9,a10⟩:=c
 obtain⟨b1,b2,b3,b4,b5,b6,b7,b8,b9,b10⟩:=d
 rw[Bool.eq_iff_iff]
 simp only[zft,zaE,decide_eq_true_eq,Bool.and_eq_true,Cor.mk.injEq]
 constructor
 ·rintro⟨h1,h2,h3,h4,h5,h6,h7,h8,h9,h10⟩
  exact⟨h1,h2,⟨h3,h4,h6,h7,h8⟩,h5,h9,h10⟩
 ·rintro⟨h1,h2,⟨h3,h4,h6,h7,h8⟩,h5,h9,h10⟩
  exact⟨h1,h2,h3,h4,h5,h6,h7,h8,h9,h10⟩
set_option maxHeartbeats 8000000 in
theorem zfq {co d:Cor}{now now':Int}{th th':List Thr}{b9 b10:Bool}(h9:∀ n t n' t',zM Tryz.prog 122 [.agg (.int .i64 n :: t :: (Cor.lv co).drop 2),.agg (.int .i64 n' :: t' :: (Cor.lv d).drop 2)] (.bool b9))(h10:∀ n t n' t',zM Tryz.prog 123 [.agg (.int .i64 n :: t :: (Cor.lv co).drop 2),.agg (.int .i64 n' :: t' :: (Cor.lv d).drop 2)] (.bool b10))
  (h1:th.length≤1000000) (ht:∀ k,k<th.length→zM Tryz.prog 121 [.agg (nth th k).lv,.agg (nth th' k).lv] (.bool (decide (nth th k=nth th' k)))) :
  zM Tryz.prog 42 [.agg [.int .i64 now,row th,row co.owners,row co.counts,row co.bufs,row co.lockq,row co.waitq,row co.downq,row co.sendq,row co.recvq],.agg [.int .i64 now',row th',row d.owners,row d.counts,row d.bufs,row d.lockq,row d.waitq,row d.downq,row d.sendq,row d.recvq]] (.bool (decide (now=now') && (decide (th=th') && (b9 && b10)))):=by
 refine .of fun s v=>?_
 replace h9:=h9 now (row th) now' (row th')
 replace h10:=h10 now (row th) now' (row th')
 simp only[Cor.lv,List.drop_succ_cons,List.drop_zero] at h9 h10
 by_cases hd:now=now'∧(th.length:Int)=th'.length
 ·obtain⟨rfl,w2⟩:=hd
  rw[decide_eq_true rfl,Bool.true_and]
  have hl:th.length=th'.length:=by omega
  have hno:∀ k,k<th.length→nth th k≠nth th' k→decide (th=th')=false:=fun k hk hn=>decide_eq_false fun e=>hn (by rw[e])
  have hyes:th.take th.length=th'.take th.length→decide (th=th')=true:=fun hI=>decide_eq_true (by rw[List.take_of_length_le (Nat.le_refl _),List.take_of_length_le (by omega)] at hI;exact hI)
  generalize decide (th=th')=R at *
  refine ac0 Tryz.func42 Tryz.ntmps42 ?_
  have hrs:Tryz.f42.results = #[.tmp 4]:=rfl
  repeat' (first|(with_reducible first|refine uk ?_|refine wk ?_ ?_<;>intro _|(refine dr P42 mixed ?_ ?_ ?_;kernel_rfl;kernel_rfl)|refine And.intro ?_ ?_)|simp -implicitDefEqProofs(disch:=first|assumption|omega)[*])
  refine zC (β:=Unit) false th.length (fun k _=>th.take k=th'.take k) (fun k _=>[(5,.int .i64 k),(20,.any),(21,.any),(22,.any),(23,.any),(24,.any),(27,.any),(28,.any),(29,.any),(30,.any),(31,.any),(32,.any),(33,.any),(34,.any),(35,.any),(36,.any),(37,.any),(38,.any),(4,.any),(25,.any),(26,.any)]) (fun _ _=>s++[.cells [.int .i64 now,row th,row co.owners,row co.counts,row co.bufs,row co.lockq,row co.waitq,row co.downq,row co.sendq,row co.recvq],.cells [.int .i64 now,row th',row d.owners,row d.counts,row d.bufs,row d.lockq,row d.waitq,row d.downq,row d.sendq,row d.recvq]]) (fun _ _=>v) ?_ ?_
  ·exact⟨(),by simp,fz0,rfl,rfl⟩
  rintro k _ hk hI
  by_cases hlt:k<th.length
  ·have hlb:(k:Int)<th'.length:=by omega
   have hx:=zB (l:=th) (i:=(k:Int)) (by omega) (by omega)
   have hy:=zB (l:=th') (i:=(k:Int)) (by omega) (by omega)
   rw[Int.toNat_natCast] at hx hy
   have hc:=ht _ hlt
   simp only[Thr.lv] at hc
   have hn:=hno k hlt
   clear hno hyes h9 h10 ht
   by_cases he:nth th k=nth th' k
   ·have hg:th.take (k+1)=th'.take (k+1):=by rw[za hlt,za (by omega),hI,he]
    rw[decide_eq_true he] at hc
    clear hn hI he hl
    repeat' (first|(with_reducible first|refine uk ?_|refine wk ?_ ?_<;>intro _|(refine dr P42 mixed ?_ ?_ ?_;kernel_rfl;kernel_rfl)|refine And.intro ?_ ?_|refine zc hc ?_)|simp -implicitDefEqProofs(disch:=first|assumption|omega)[*])
    all_goals exact⟨hlt,(),hg,fz,rfl,rfl⟩
   ·rw[decide_eq_false he] at hc
    rw[hn he]
    clear hn hI he hl
    repeat' (first|(with_reducible first|refine uk ?_|refine wk ?_ ?_<;>intro _|(refine dr P42 mixed ?_ ?_ ?_;kernel_rfl;kernel_rfl)|refine And.intro ?_ ?_|refine zc hc ?_)|simp -implicitDefEqProofs(disch:=first|assumption|omega)[*])
    all_goals exact zn.eqat (by simp) (by simp)
  ·have:k=th.length:=by omega
   subst this
   rw[hyes hI]
   clear hno hyes hI ht hl
   repeat' (first|(with_reducible first|refine uk ?_|refine wk ?_ ?_<;>intro _|(refine dr P42 mixed ?_ ?_ ?_;kernel_rfl;kernel_rfl)|refine And.intro ?_ ?_|refine zc h9 ?_|refine zc h10 ?_)|simp -implicitDefEqProofs(disch:=first|assumption|omega)[*])
   all_goals exact zn.eqat (by simp[*]) (by simp)
 ·have hf:(decide (now=now') && (decide (th=th') && (b9 && b10)))=false:=by
   rw[Bool.eq_false_iff]
   intro e
   simp only[Bool.and_eq_true,decide_eq_true_eq] at e
   exact hd ⟨e.1,by rw[e.2.1]⟩
  rw[hf]
  clear hf h9 h10 ht
  by_cases w1:now=now'
  ·subst w1
   have w2:¬ (th.length:Int)=th'.length:=fun e=>hd ⟨rfl,e⟩
   clear hd
   refine ac0 Tryz.func42 Tryz.ntmps42 ?_
   have hrs:Tryz.f42.results = #[.tmp 4]:=rfl
   repeat' (first|(with_reducible first|refine uk ?_|refine wk ?_ ?_<;>intro _|(refine dr P42 mixed ?_ ?_ ?_;kernel_rfl;kernel_rfl)|refine And.intro ?_ ?_)|simp -implicitDefEqProofs(disch:=first|assumption|omega)[*])
   all_goals exact zn.eqat rfl (by simp)
  ·clear hd
   refine ac0 Tryz.func42 Tryz.ntmps42 ?_
   have hrs:Tryz.f42.results = #[.tmp 4]:=rfl
   repeat' (first|(with_reducible first|refine uk ?_|refine wk ?_ ?_<;>intro _|(refine dr P42 mixed ?_ ?_ ?_;kernel_rfl;kernel_rfl)|refine And.intro ?_ ?_)|simp -implicitDefEqProofs(disch:=first|assumption|omega)[*])
   all_goals exact zn.eqat rfl (by simp)
theorem zeE {c d:Cor}(h:BigC c):zM Tryz.prog 42 [.agg [.int .i64 c.now,row c.threads,row c.owners,row c.counts,row c.bufs,row c.lockq,row c.waitq,row c.downq,row c.sendq,row c.recvq],.agg [.int .i64 d.now,row d.threads,row d.owners,row d.counts,row d.bufs,row d.lockq,row d.waitq,row d.downq,row d.sendq,row d.recvq]] (.bool (decide (c=d))):=by
 rw[ziB]
 exact zfq (co:=c) (d:=d) (fun n t n' t'=>zhX h) (fun n t n' t'=>zeg h) h.threads.1 fun k hk=>by
  have hb:=h.threads.2 _ (zm hk)
  exact zgx hb.1 hb.2.1 hb.2.2
instance:DecidableEq Img:=fun a b=>decidable_of_iff (a.ver=b.ver∧a.ep=b.ep∧a.p=b.p∧a.c=b.c) ⟨fun ⟨h1,h2,h3,h4⟩=>by cases a;cases b;simp_all,fun h=>by subst h;exact⟨rfl,rfl,rfl,rfl⟩⟩
theorem zfA {p q:Prog}{c d:Cor}{v1 e1 v2 e2:Int}(hp:Qj p)(h:BigC c):zM Tryz.prog 16 [.agg [.int .i64 v1,.int .i64 e1,row p.funcs,.int .i64 p.mutexes,row p.conds,row p.semas,row p.chans,row p.choices,.int .i64 p.threads,.int .i64 c.now,row c.threads,row c.owners,row c.counts,row c.bufs,row c.lockq,row c.waitq,row c.downq,row c.sendq,row c.recvq],.agg [.int .i64 v2,.int .i64 e2,row q.funcs,.int .i64 q.mutexes,row q.conds,row q.semas,row q.chans,row q.choices,.int .i64 q.threads,.int .i64 d.now,row d.threads,row d.owners,row d.counts,row d.bufs,row d.lockq,row d.waitq,row d.downq,row d.sendq,row d.recvq]] (.bool (decide ((⟨v1,e1,p,c⟩:Img)=⟨v2,e2,q,d⟩))):=by
 refine .of fun s v=>?_
 have hs:=ziO (fs:=p.funcs) (mu:=p.mutexes) (th:=p.threads) (co:=p.conds) (se:=p.semas) (ch:=p.chans) (cho:=p.choices) (fs':=q.funcs) (mu':=q.mutexes) (th':=q.threads) (co':=q.conds) (se':=q.semas) (ch':=q.chans) (cho':=q.choices) hp
 have hc:=zeE (d:=d) h
 have e:decide ((⟨v1,e1,p,c⟩:Img)=⟨v2,e2,q,d⟩)=(decide (v1=v2) && (decide (e1=e2) && (decide (p=q) && decide (c=d)))):=by rw[Bool.eq_iff_iff];simp
 rw[e]
 have hs':zM Tryz.prog 41 [.agg [row p.funcs,.int .i64 p.mutexes,row p.conds,row p.semas,row p.chans,row p.choices,.int .i64 p.threads],.agg [row q.funcs,.int .i64 q.mutexes,row q.conds,row q.semas,row q.chans,row q.choices,.int .i64 q.threads]] (.bool (decide (p=q))):=hs
 clear e hs
 generalize decide (p=q)=b1 at *
 generalize decide (c=d)=b2 at *
 refine ac0 Tryz.func16 Tryz.ntmps16 ?_
 have hrs:Tryz.f16.results = #[.tmp 4]:=rfl
 repeat' (first|(with_reducible first|refine uk ?_|refine wk ?_ ?_<;>intro _|refine And.intro ?_ ?_|refine zc hs' ?_|refine zc hc ?_)|simp -implicitDefEqProofs(disch:=first|assumption|omega)[*])
 all_goals exact zn.eqat (by simp[*]) (by simp)
theorem zjC {a b:List (Frm)}{g:FuncId}(ha:a.length≤1000000)(h:∀ k,k<a.length→zM Tryz.prog g [.agg [.int .i64 (nth a k).func,.int .i64 (nth a k).pc,row (nth a k).locals],.agg [.int .i64 (nth b k).func,.int .i64 (nth b k).pc,row (nth b k).locals]] (.bool (decide (nth a k=nth b k)))):zM Tryz.prog 219 [row a,row b,.fn (.func g) [] []] (.bool (decide (a=b))):=by
 refine .of fun s v=>?_
 by_cases hl:a.length=b.length
 ·have hl':(a.length:Int)=b.length:=by omega
  refine ac0 Tryz.func219 Tryz.ntmps219 ?_
  have hrs:Tryz.f219.results = #[.tmp 6]:=rfl
  repeat' (first|(with_reducible first|refine uk ?_|refine wk ?_ ?_<;>intro _)|simp -implicitDefEqProofs(disch:=first|assumption|omega)[*])
  refine zC (β:=List AObj) false a.length (fun k _=>a.take k=b.take k) (fun k _=>[(17,.int .i64 k),(18,.any),(19,.any),(20,.any),(21,.any),(8,.any),(7,.any),(22,.any),(23,.any),(24,.any),(25,.any),(9,.any),(26,.any),(27,.any),(28,.any),(29,.any),(30,.any),(6,.any),(31,.any)]) (fun _ J=>s++J) (fun _ _=>v) ?_ ?_
  ·exact⟨[],by simp,fz0,by simp,rfl⟩
  rintro k J hk hI
  by_cases hlt:k<a.length
  ·have hlb:(k:Int)<b.length:=by omega
   have hc:=h k hlt
   have hx:=zB (l:=a) (i:=(k:Int)) (by omega) (by omega)
   have hy:=zB (l:=b) (i:=(k:Int)) (by omega) (by omega)
   rw[Int.toNat_natCast] at hx hy
   clear h hl
   by_cases hn:nth a k=nth b k
   ·rw[decide_eq_true hn] at hc
    have hg:a.take (k+1)=b.take (k+1):=by rw[za hlt,za (by omega),hI,hn]
    clear hn hI
    repeat' (first|(with_reducible first|refine uk ?_|refine wk ?_ ?_<;>intro _|refine zc hc ?_)|simp -implicitDefEqProofs(disch:=first|assumption|omega)[*])
    exact⟨hlt,J++[.cells (Enc.enc (nth a k)),.cells (Enc.enc (nth b k))],hg,fz,by simp,rfl⟩
   ·rw[decide_eq_false hn] at hc
    have hd:¬ a=b:=fun e=>hn (by rw[e])
    rw[decide_eq_false hd]
    clear hn hI hd
    repeat' (first|(with_reducible first|refine uk ?_|refine wk ?_ ?_<;>intro _|refine zc hc ?_)|simp -implicitDefEqProofs(disch:=first|assumption|omega)[*])
    exact zn.eqat rfl (by simp)
  ·have:k=a.length:=by omega
   subst this
   have hd:a=b:=by rw[List.take_of_length_le (Nat.le_refl _),List.take_of_length_le (by omega)] at hI;exact hI
   rw[decide_eq_true hd]
   clear hd hI h hl
   repeat' (first|(with_reducible first|refine uk ?_|refine wk ?_ ?_<;>intro _)|simp -implicitDefEqProofs(disch:=first|assumption|omega)[*])
   exact zn.eqat rfl (by simp)
 ·have hl':¬ (a.length:Int)=b.length:=by omega
  rw[decide_eq_false (fun e=>hl (by rw[e]))]
  clear hl
  refine ac0 Tryz.func219 Tryz.ntmps219 ?_
  have hrs:Tryz.f219.results = #[.tmp 6]:=rfl
  repeat' (first|(with_reducible first|refine uk ?_|refine wk ?_ ?_<;>intro _)|simp -implicitDefEqProofs(disch:=first|assumption|omega)[*])
  exact zn.eq rfl (by simp)
theorem zjj {a b:List (Thr)}{g:FuncId}(ha:a.length≤1000000)(h:∀ k,k<a.length→zM Tryz.prog g [.agg [.int .i64 (nth a k).state,.int .i64 (nth a k).on,row (nth a k).frames,row (nth a k).stack,.int .i64 (nth a k).code],.agg [.int .i64 (nth b k).state,.int .i64 (nth b k).on,row (nth b k).frames,row (nth b k).stack,.int .i64 (nth b k).code]] (.bool (decide (nth a k=nth b k)))):zM Tryz.prog 146 [row a,row b,.fn (.func g) [] []] (.bool (decide (a=b))):=by
 refine .of fun s v=>?_
 by_cases hl:a.length=b.length
 ·have hl':(a.length:Int)=b.length:=by omega
  refine ac0 Tryz.func146 Tryz.ntmps146 ?_
  have hrs:Tryz.f146.results = #[.tmp 6]:=rfl
  repeat' (first|(with_reducible first|refine uk ?_|refine wk ?_ ?_<;>intro _)|simp -implicitDefEqProofs(disch:=first|assumption|omega)[*])
  refine zC (β:=List AObj) false a.length (fun k _=>a.take k=b.take k) (fun k _=>[(17,.int .i64 k),(18,.any),(19,.any),(20,.any),(21,.any),(8,.any),(7,.any),(22,.any),(23,.any),(24,.any),(25,.any),(9,.any),(26,.any),(27,.any),(28,.any),(29,.any),(30,.any),(6,.any),(31,.any)]) (fun _ J=>s++J) (fun _ _=>v) ?_ ?_
  ·exact⟨[],by simp,fz0,by simp,rfl⟩
  rintro k J hk hI
  by_cases hlt:k<a.length
  ·have hlb:(k:Int)<b.length:=by omega
   have hc:=h k hlt
   have hx:=zB (l:=a) (i:=(k:Int)) (by omega) (by omega)
   have hy:=zB (l:=b) (i:=(k:Int)) (by omega) (by omega)
   rw[Int.toNat_natCast] at hx hy
   clear h hl
   by_cases hn:nth a k=nth b k
   ·rw[decide_eq_true hn] at hc
    have hg:a.take (k+1)=b.take (k+1):=by rw[za hlt,za (by omega),hI,hn]
    clear hn hI
    repeat' (first|(with_reducible first|refine uk ?_|refine wk ?_ ?_<;>intro _|refine zc hc ?_)|simp -implicitDefEqProofs(disch:=first|assumption|omega)[*])
    exact⟨hlt,J++[.cells (Enc.enc (nth a k)),.cells (Enc.enc (nth b k))],hg,fz,by simp,rfl⟩
   ·rw[decide_eq_false hn] at hc
    have hd:¬ a=b:=fun e=>hn (by rw[e])
    rw[decide_eq_false hd]
    clear hn hI hd
    repeat' (first|(with_reducible first|refine uk ?_|refine wk ?_ ?_<;>intro _|refine zc hc ?_)|simp -implicitDefEqProofs(disch:=first|assumption|omega)[*])
    exact zn.eqat rfl (by simp)
  ·have:k=a.length:=by omega
   subst this
   have hd:a=b:=by rw[List.take_of_length_le (Nat.le_refl _),List.take_of_length_le (by omega)] at hI;exact hI
   rw[decide_eq_true hd]
   clear hd hI h hl
   repeat' (first|(with_reducible first|refine uk ?_|refine wk ?_ ?_<;>intro _)|simp -implicitDefEqProofs(disch:=first|assumption|omega)[*])
   exact zn.eqat rfl (by simp)
 ·have hl':¬ (a.length:Int)=b.length:=by omega
  rw[decide_eq_false (fun e=>hl (by rw[e]))]
  clear hl
  refine ac0 Tryz.func146 Tryz.ntmps146 ?_
  have hrs:Tryz.f146.results = #[.tmp 6]:=rfl
  repeat' (first|(with_reducible first|refine uk ?_|refine wk ?_ ?_<;>intro _)|simp -implicitDefEqProofs(disch:=first|assumption|omega)[*])
  exact zn.eq rfl (by simp)
theorem zgi {a b:List (List (List Int))}{g:FuncId}(ha:a.length≤1000000)(h:∀ k,k<a.length→zM Tryz.prog g [row (nth a k),row (nth b k)] (.bool (decide (nth a k=nth b k)))):zM Tryz.prog 148 [row a,row b,.fn (.func g) [] []] (.bool (decide (a=b))):=by
 refine .of fun s v=>?_
 by_cases hl:a.length=b.length
 ·have hl':(a.length:Int)=b.length:=by omega
  refine ac0 Tryz.func148 Tryz.ntmps148 ?_
  have hrs:Tryz.f148.results = #[.tmp 6]:=rfl
  repeat' (first|(with_reducible first|refine uk ?_|refine wk ?_ ?_<;>intro _)|simp -implicitDefEqProofs(disch:=first|assumption|omega)[*])
  refine zC (β:=Unit) false a.length (fun k _=>a.take k=b.take k) (fun k _=>[(17,.int .i64 k),(18,.any),(19,.any),(20,.any),(21,.any),(7,.any),(8,.any),(22,.any),(23,.any),(24,.any),(25,.any),(9,.any),(26,.any),(27,.any),(28,.any),(29,.any),(30,.any),(6,.any),(31,.any)]) (fun _ _=>s) (fun _ _=>v) ?_ ?_
  ·exact⟨(),by simp,fz0,by simp,rfl⟩
  rintro k _ hk hI
  by_cases hlt:k<a.length
  ·have hlb:(k:Int)<b.length:=by omega
   have hc:=h k hlt
   have hx:=zB (l:=a) (i:=(k:Int)) (by omega) (by omega)
   have hy:=zB (l:=b) (i:=(k:Int)) (by omega) (by omega)
   rw[Int.toNat_natCast] at hx hy
   clear h hl
   by_cases hn:nth a k=nth b k
   ·rw[decide_eq_true hn] at hc
    have hg:a.take (k+1)=b.take (k+1):=by rw[za hlt,za (by omega),hI,hn]
    clear hn hI
    repeat' (first|(with_reducible first|refine uk ?_|refine wk ?_ ?_<;>intro _|refine zc hc ?_)|simp -implicitDefEqProofs(disch:=first|assumption|omega)[*])
    exact⟨hlt,(),hg,fz,by simp,rfl⟩
   ·rw[decide_eq_false hn] at hc
    have hd:¬ a=b:=fun e=>hn (by rw[e])
    rw[decide_eq_false hd]
    clear hn hI hd
    repeat' (first|(with_reducible first|refine uk ?_|refine wk ?_ ?_<;>intro _|refine zc hc ?_)|simp -implicitDefEqProofs(disch:=first|assumption|omega)[*])
    exact zn.eq rfl (by simp)
  ·have:k=a.length:=by omega
   subst this
   have hd:a=b:=by rw[List.take_of_length_le (Nat.le_refl _),List.take_of_length_le (by omega)] at hI;exact hI
   rw[decide_eq_true hd]
   clear hd hI h hl
   repeat' (first|(with_reducible first|refine uk ?_|refine wk ?_ ?_<;>intro _)|simp -implicitDefEqProofs(disch:=first|assumption|omega)[*])
   exact zn.eq rfl (by simp)
 ·have hl':¬ (a.length:Int)=b.length:=by omega
  rw[decide_eq_false (fun e=>hl (by rw[e]))]
  clear hl
  refine ac0 Tryz.func148 Tryz.ntmps148 ?_
  have hrs:Tryz.f148.results = #[.tmp 6]:=rfl
  repeat' (first|(with_reducible first|refine uk ?_|refine wk ?_ ?_<;>intro _)|simp -implicitDefEqProofs(disch:=first|assumption|omega)[*])
  exact zn.eq rfl (by simp)
theorem zgS {f g:Frm}(h:f.locals.length≤1000000):zM Tryz.prog 220 [.agg [.int .i64 f.func,.int .i64 f.pc,row f.locals],.agg [.int .i64 g.func,.int .i64 g.pc,row g.locals]] (.bool (decide (f=g))):=by
 refine .of fun s v=>?_
 have he:=vd (a:=f.locals) (b:=g.locals) (by omega)
 have e:decide (f=g)=(decide (f.func=g.func) && (decide (f.pc=g.pc) && decide (f.locals=g.locals))):=by
  cases f;cases g;rw[Bool.eq_iff_iff];simp
 rw[e]
 clear e
 generalize decide (f.locals=g.locals)=b at *
 refine ac0 Tryz.func220 Tryz.ntmps220 ?_
 have hrs:Tryz.f220.results = #[.tmp 4]:=rfl
 repeat' (first|(with_reducible first|refine uk ?_|refine wk ?_ ?_<;>intro _|refine And.intro ?_ ?_|refine zc he ?_)|simp -implicitDefEqProofs(disch:=first|assumption|omega)[*])
 all_goals exact zn.eqat (by simp[*]) (by simp)
theorem zjo {a b:Thr}(h1:a.frames.length≤1000000)(h2:a.stack.length≤1000000)(h3:∀ f∈a.frames,f.locals.length≤1000000):zM Tryz.prog 147 [.agg a.lv,.agg b.lv] (.bool (decide (a=b))):=by
 refine .of fun s v=>?_
 have he:=vd (a:=a.stack) (b:=b.stack) (by omega)
 have hf:=zjC (a:=a.frames) (b:=b.frames) (g:=220) h1 fun k hk=>zgS (h3 _ (zm hk))
 have e:decide (a=b)=(decide (a.frames=b.frames) && (decide (a.state=b.state) && (decide (a.on=b.on) && (decide (a.stack=b.stack) && decide (a.code=b.code))))):=by
  cases a;cases b;rw[Bool.eq_iff_iff];simp;constructor<;>(intros;simp_all)
 rw[e]
 clear e h1 h2 h3
 generalize decide (a.stack=b.stack)=b1 at *
 generalize decide (a.frames=b.frames)=b2 at *
 simp only[Thr.lv] at *
 refine ac0 Tryz.func147 Tryz.ntmps147 ?_
 have hrs:Tryz.f147.results = #[.tmp 4]:=rfl
 repeat' (first|(with_reducible first|refine uk ?_|refine wk ?_ ?_<;>intro _|refine And.intro ?_ ?_|refine zc he ?_|refine zc hf ?_)|simp -implicitDefEqProofs(disch:=first|assumption|omega)[*])
 all_goals exact zn.eqat (by simp[*]) (by simp)
@[simp] def P53:Nat→Plan
 | 3=>(.qs [0,1,2,3,4,5,6,7,8,9] (.w 10 [] (.qs [11,12,13,14,15,16] (.w 17 [] (.qs [18,19,20,21,22,23] (.w 24 [] (.qs [25,26,27,28,30,31,33] (.w 29 [31] (.w 32 [] (.w 34 [] (.qs [35,36] .nil)))))))))))
 | _=>.nil
theorem zcd {c:Cor}(n:Int):zG Tryz.prog 144 [.agg [.int .i64 n,row c.threads,row c.owners,row c.counts,row c.bufs,row c.lockq,row c.waitq,row c.downq,row c.sendq,row c.recvq]] (row [c.bufs,c.lockq,c.waitq,c.downq,c.sendq,c.recvq]):=by
 refine .of fun s v=>?_
 refine ac0 Tryz.func144 Tryz.ntmps144 ?_
 have hrs:Tryz.f144.results = #[.tmp 2]:=rfl
 repeat' (first|(with_reducible first|refine uk ?_|refine wk ?_ ?_<;>intro _|refine And.intro ?_ ?_)|simp -implicitDefEqProofs(disch:=first|assumption|omega)[*])
 all_goals exact Ends.at (by simp) (Weak.row (α:=List (List Int)) (l:=[c.bufs,c.lockq,c.waitq,c.downq,c.sendq,c.recvq]) (by simp[zd,Enc.enc]) rfl) (List.prefix_refl _)
theorem zhN {a b:List (List Int)}(h:BigR a):zM Tryz.prog 145 [row a,row b] (.bool (decide (a=b))):=by
 refine .of fun s v=>?_
 have he:=zib (a:=a) (b:=b) (by have:=h.1;omega) (fun k hk=>by have:=h.2 _ (zm hk);omega)
 generalize decide (a=b)=b at *
 refine ac0 Tryz.func145 Tryz.ntmps145 ?_
 have hrs:Tryz.f145.results = #[.tmp 4]:=rfl
 repeat' (first|(with_reducible first|refine uk ?_|refine wk ?_ ?_<;>intro _|refine zc he ?_)|simp -implicitDefEqProofs(disch:=first|assumption|omega)[*])
 all_goals exact zn.eq rfl (by simp)
theorem zki (c d:Cor):decide (c=d)=(decide (c.now=d.now) && (decide (c.threads=d.threads) && (decide (c.owners=d.owners) && (decide (c.counts=d.counts) && decide ([c.bufs,c.lockq,c.waitq,c.downq,c.sendq,c.recvq]=[d.bufs,d.lockq,d.waitq,d.downq,d.sendq,d.recvq]))))):=by
 rw[ziB,Bool.eq_iff_iff]
 simp only[zft,zaE,decide_eq_true_eq,Bool.and_eq_true,List.cons.injEq,and_true]
 constructor
 ·rintro⟨h1,h2,⟨h3,h4,h6,h7,h8⟩,h5,h9,h10⟩
  exact⟨h1,h2,h3,h4,h5,h6,h7,h8,h9,h10⟩
 ·rintro⟨h1,h2,h3,h4,h5,h6,h7,h8,h9,h10⟩
  exact⟨h1,h2,⟨h3,h4,h6,h7,h8⟩,h5,h9,h10⟩
set_option maxHeartbeats 4000000 in
theorem zdw {c d:Cor}(h:BigC c):zG Tryz.prog 53 [.agg [.int .i64 c.now,row c.threads,row c.owners,row c.counts,row c.bufs,row c.lockq,row c.waitq,row c.downq,row c.sendq,row c.recvq],.agg [.int .i64 d.now,row d.threads,row d.owners,row d.counts,row d.bufs,row d.lockq,row d.waitq,row d.downq,row d.sendq,row d.recvq]] (.bool (decide (c=d))):=by
 refine .of fun s v=>?_
 have h1:=zcd (c:=c)
 have h2:=zcd (c:=d)
 have hbig:∀ k,k<[c.bufs,c.lockq,c.waitq,c.downq,c.sendq,c.recvq].length→BigR (nth [c.bufs,c.lockq,c.waitq,c.downq,c.sendq,c.recvq] k):=fun k hk=>by
  have hk6:k=0∨k=1∨k=2∨k=3∨k=4∨k=5:=by simp at hk;omega
  rcases hk6 with rfl | rfl | rfl | rfl | rfl | rfl
  ·exact h.bufs
  ·exact h.lockq
  ·exact h.waitq
  ·exact h.downq
  ·exact h.sendq
  ·exact h.recvq
 have h3:=zgi (a:=[c.bufs,c.lockq,c.waitq,c.downq,c.sendq,c.recvq]) (b:=[d.bufs,d.lockq,d.waitq,d.downq,d.sendq,d.recvq]) (g:=145) (by simp) fun k hk=>zhN (hbig k hk)
 have h4:=zjj (a:=c.threads) (b:=d.threads) (g:=147) h.threads.1 fun k hk=>by
  have hb:=h.threads.2 _ (zm hk)
  exact zjo hb.1 hb.2.1 hb.2.2
 have h5:=vd (a:=c.owners) (b:=d.owners) (by have:=h.owners;omega)
 have h6:=vd (a:=c.counts) (b:=d.counts) (by have:=h.counts;omega)
 rw[zki]
 clear h hbig
 generalize decide (c.owners=d.owners)=b1 at *
 generalize decide (c.counts=d.counts)=b2 at *
 generalize decide (c.threads=d.threads)=b3 at *
 generalize decide ([c.bufs,c.lockq,c.waitq,c.downq,c.sendq,c.recvq]=[d.bufs,d.lockq,d.waitq,d.downq,d.sendq,d.recvq])=b4 at *
 generalize [c.bufs,c.lockq,c.waitq,c.downq,c.sendq,c.recvq]=l1 at *
 generalize [d.bufs,d.lockq,d.waitq,d.downq,d.sendq,d.recvq]=l2 at *
 refine ac0 Tryz.func53 Tryz.ntmps53 ?_
 have hrs:Tryz.f53.results = #[.tmp 4]:=rfl
 repeat' (first|(with_reducible first|refine uk ?_|refine wk ?_ ?_<;>intro _|(refine dr P53 mixed ?_ ?_ ?_;kernel_rfl;kernel_rfl)|refine And.intro ?_ ?_|refine zc h4 ?_|refine zc h5 ?_|refine zc h6 ?_|refine zg (h1 _) (fun v1 hv1=>?_)|refine zg (h2 _) (fun v1 hv1=>?_)|refine zc h3 ?_)|simp -implicitDefEqProofs(disch:=first|assumption|omega)[*])
 all_goals exact Ends.eqat (by simp[*]) (by simp) (by repeat' (first|exact List.prefix_refl _|assumption|refine List.IsPrefix.trans ?_ (by assumption)))
theorem zke {p q:Prog}{c d:Cor}{v1 e1 v2 e2:Int}(hp:Qj p)(h:BigC c):zG Tryz.prog 18 [.agg [.int .i64 v1,.int .i64 e1,row p.funcs,.int .i64 p.mutexes,row p.conds,row p.semas,row p.chans,row p.choices,.int .i64 p.threads,.int .i64 c.now,row c.threads,row c.owners,row c.counts,row c.bufs,row c.lockq,row c.waitq,row c.downq,row c.sendq,row c.recvq],.agg [.int .i64 v2,.int .i64 e2,row q.funcs,.int .i64 q.mutexes,row q.conds,row q.semas,row q.chans,row q.choices,.int .i64 q.threads,.int .i64 d.now,row d.threads,row d.owners,row d.counts,row d.bufs,row d.lockq,row d.waitq,row d.downq,row d.sendq,row d.recvq]] (.bool (decide ((⟨v1,e1,p,c⟩:Img)=⟨v2,e2,q,d⟩))):=by
 refine .of fun s v=>?_
 have hs:=zjA (fs:=p.funcs) (mu:=p.mutexes) (th:=p.threads) (co:=p.conds) (se:=p.semas) (ch:=p.chans) (cho:=p.choices) (fs':=q.funcs) (mu':=q.mutexes) (th':=q.threads) (co':=q.conds) (se':=q.semas) (ch':=q.chans) (cho':=q.choices) hp
 have hc:=zdw (d:=d) h
 have e:decide ((⟨v1,e1,p,c⟩:Img)=⟨v2,e2,q,d⟩)=(decide (v1=v2) && (decide (e1=e2) && (decide (p=q) && decide (c=d)))):=by rw[Bool.eq_iff_iff];simp
 rw[e]
 have hs':zM Tryz.prog 52 [.agg [row p.funcs,.int .i64 p.mutexes,row p.conds,row p.semas,row p.chans,row p.choices,.int .i64 p.threads],.agg [row q.funcs,.int .i64 q.mutexes,row q.conds,row q.semas,row q.chans,row q.choices,.int .i64 q.threads]] (.bool (decide (p=q))):=hs
 clear e hs
 generalize decide (p=q)=b1 at *
 generalize decide (c=d)=b2 at *
 refine ac0 Tryz.func18 Tryz.ntmps18 ?_
 have hrs:Tryz.f18.results = #[.tmp 4]:=rfl
 repeat' (first|(with_reducible first|refine uk ?_|refine wk ?_ ?_<;>intro _|refine And.intro ?_ ?_|refine zc hs' ?_|refine zg hc (fun v1 hv1=>?_))|simp -implicitDefEqProofs(disch:=first|assumption|omega)[*])
 all_goals exact Ends.eqat (by simp[*]) (by simp) (by first|exact List.prefix_refl _|assumption)
end Go.Hb
end
