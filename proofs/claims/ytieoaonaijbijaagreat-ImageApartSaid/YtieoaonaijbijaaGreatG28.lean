/-
  A layer for reasoning about the program's calls, and contracts of its functions. CONDITIONS: none; each theorem bears its own.
-/
import Derived.Test.YtieoaonaijbijaaGreatG27
import Derived.Test.YtieoaonaijbijaaGreatG09
import Derived.Test.YtieoaonaijbijaaGreatG18
set_option linter.unusedVariables false
set_option linter.unusedSimpArgs false
section
namespace Go.Hb
open Go Go.Proofs Go.RowKit
set_option maxRecDepth 100000
set_option maxHeartbeats 800000
attribute [-simp] aC aL aOper aThen aInBlock aIf aPlan aAppend aLen aIndexAddr aSlice aCells aBounds lBr aq initT aev aAppendOwn aAppendNil aAppendNew aAppendRef LV.cells LV.cellsOk getElem?_pos getElem?_neg
instance:DecidableEq Frm:=fun a b=>decidable_of_iff (a.func=b.func∧a.pc=b.pc∧a.locals=b.locals) ⟨fun ⟨h1,h2,h3⟩=>by cases a;cases b;simp_all,fun h=>by subst h;exact⟨rfl,rfl,rfl⟩⟩
instance:DecidableEq Thr:=fun a b=>decidable_of_iff (a.state=b.state∧a.on=b.on∧a.code=b.code∧a.stack=b.stack∧a.frames=b.frames) ⟨fun ⟨h1,h2,h3,h4,h5⟩=>by cases a;cases b;simp_all,fun h=>by subst h;exact⟨rfl,rfl,rfl,rfl,rfl⟩⟩
instance:DecidableEq Cor:=fun a b=>decidable_of_iff (a.now=b.now∧a.threads=b.threads∧a.owners=b.owners∧a.counts=b.counts∧a.lockq=b.lockq∧a.waitq=b.waitq∧a.downq=b.downq∧a.bufs=b.bufs∧a.sendq=b.sendq∧a.recvq=b.recvq)
 ⟨fun ⟨h1,h2,h3,h4,h5,h6,h7,h8,h9,h10⟩=>by cases a;cases b;simp_all,fun h=>by subst h;exact⟨rfl,rfl,rfl,rfl,rfl,rfl,rfl,rfl,rfl,rfl⟩⟩
theorem frm_ne {x y:Frm} (h:x≠y):¬ (x.func=y.func∧x.pc=y.pc∧x.locals=y.locals):=fun ⟨h1,h2,h3⟩=>h (by cases x;cases y;simp_all)
set_option maxHeartbeats 8000000 in
theorem rsameT_p {a b:Thr} (h1:a.frames.length≤1000000) (h2:a.stack.length≤1000000) (h3:∀ f∈a.frames,f.locals.length≤1000000):PureE Tryz.prog 121 [.agg a.lv,.agg b.lv] (.bool (decide (a=b))):=by
 obtain⟨st,on,fr,sk,co⟩:=a
 obtain⟨st',on',fr',sk',co'⟩:=b
 simp only [Thr.lv] at *
 have hb:=rsameI_p (a:=sk) (b:=sk') (by omega)
 refine .of fun s v=>?_
 by_cases hd:st=st'∧on=on'∧co=co'∧fr.length=fr'.length∧sk=sk'
 ·obtain⟨rfl,rfl,rfl,hl,rfl⟩:=hd
  rw [decide_eq_true rfl] at hb
  have he:decide ((⟨st,on,fr,sk,co⟩:Thr)=⟨st,on,fr',sk,co⟩)=decide (fr=fr'):=by rw [decide_eq_decide];simp
  rw [he]
  have hl':(fr.length:Int)=fr'.length:=by omega
  refine ac0 Tryz.func121 Tryz.ntmps121 ?_
  have hrs:Tryz.f121.results = #[.tmp 4]:=rfl
  repeat' (first|(with_reducible first|refine uk ?_|refine wk ?_ ?_<;>intro _|refine callE hb ?_)|simp -implicitDefEqProofs(disch:=first|assumption|omega)[*])
  refine aW_for (β:=List AObj) false fr.length (fun k _=>fr.take k=fr'.take k) (fun k _=>[(5,.int .i64 k),(44,.any),(45,.any),(46,.any),(47,.any),(48,.any),(51,.any),(52,.any),(53,.any),(54,.any),(55,.any),(6,.any),(56,.any),(57,.any),(58,.any),(59,.any),(60,.any),(7,.any),(61,.any),(62,.any),(63,.any),(64,.any),(65,.any),(66,.any),(67,.any),(68,.any),(69,.any),(70,.any),(71,.any),(72,.any),(73,.any),(74,.any),(75,.any),(76,.any),(77,.any),(78,.any),(79,.any),(80,.any),(4,.any),(49,.any),(50,.any)]) (fun _ J=>s++(.cells [.int .i64 st,.int .i64 on,row fr,row sk,.int .i64 co] :: .cells [.int .i64 st,.int .i64 on,row fr',row sk,.int .i64 co] :: J)) (fun _ _=>v) ?_ ?_
  ·exact⟨[],by simp,fz0,by simp,rfl⟩
  rintro k J hk hI
  by_cases hlt:k<fr.length
  ·have hlb:k<fr'.length:=by omega
   have hlt':(k:Int)<fr'.length:=by omega
   have hx:=ix_in (l:=fr) (i:=(k:Int)) (by omega) (by omega)
   have hy:=ix_in (l:=fr') (i:=(k:Int)) (by omega) (by omega)
   rw [Int.toNat_natCast] at hx hy
   have hc:=rsameI_p (a:=(nth fr k).locals) (b:=(nth fr' k).locals) (by have:=h3 _ (nth_mem hlt);omega)
   by_cases hn:nth fr k=nth fr' k
   ·rw [hn] at hc
    rw [decide_eq_true rfl] at hc
    clear hb he h3
    repeat' (first|(with_reducible first|refine uk ?_|refine wk ?_ ?_<;>intro _|refine callE hc ?_)|simp -implicitDefEqProofs(disch:=first|assumption|omega)[*])
    all_goals exact⟨hlt,_,by show fr.take (k+1)=fr'.take (k+1);rw [take_succ_nth hlt,take_succ_nth hlb,hI,hn],fz,rfl,rfl⟩
   ·have hq:=frm_ne hn
    have hdd:¬ fr=fr':=fun e=>hn (by rw [e])
    rw [decide_eq_false hdd]
    clear hb he h3 hI
    by_cases w1:(nth fr k).func=(nth fr' k).func
    ·by_cases w2:(nth fr k).pc=(nth fr' k).pc
     ·have w3:¬ (nth fr k).locals=(nth fr' k).locals:=fun e=>hq ⟨w1,w2,e⟩
      rw [decide_eq_false w3] at hc
      clear hq
      repeat' (first|(with_reducible first|refine uk ?_|refine wk ?_ ?_<;>intro _|refine callE hc ?_)|simp -implicitDefEqProofs(disch:=first|assumption|omega)[*])
      all_goals exact EndsE.eqat rfl (by simp)
     ·clear hq hc
      repeat' (first|(with_reducible first|refine uk ?_|refine wk ?_ ?_<;>intro _)|simp -implicitDefEqProofs(disch:=first|assumption|omega)[*])
      all_goals exact EndsE.eqat rfl (by simp)
    ·clear hq hc
     repeat' (first|(with_reducible first|refine uk ?_|refine wk ?_ ?_<;>intro _)|simp -implicitDefEqProofs(disch:=first|assumption|omega)[*])
     all_goals exact EndsE.eqat rfl (by simp)
  ·have:k=fr.length:=by omega
   subst this
   have hdd:fr=fr':=by rw [List.take_of_length_le (Nat.le_refl _),List.take_of_length_le (by omega)] at hI;exact hI
   clear h3 hI
   repeat' (first|(with_reducible first|refine uk ?_|refine wk ?_ ?_<;>intro _)|simp -implicitDefEqProofs(disch:=first|assumption|omega)[*])
   all_goals exact EndsE.eqat (by simp [hdd]) (by simp)
 ·have hdd:¬ (⟨st,on,fr,sk,co⟩:Thr)=⟨st',on',fr',sk',co'⟩:=fun e=>hd (by cases e;simp)
  rw [decide_eq_false hdd]
  clear hdd h3
  have hfe:(fr.length=fr'.length)=((fr.length:Int)=fr'.length):=by rw [eq_iff_iff];omega
  rw [hfe] at hd
  clear hfe
  by_cases w1:st=st'
  ·by_cases w2:on=on'
   ·by_cases w3:co=co'
    ·by_cases w4:(fr.length:Int)=fr'.length
     ·have w5:¬ sk=sk':=fun e=>hd ⟨w1,w2,w3,w4,e⟩
      rw [decide_eq_false w5] at hb
      clear hd
      refine ac0 Tryz.func121 Tryz.ntmps121 ?_
      have hrs:Tryz.f121.results = #[.tmp 4]:=rfl
      repeat' (first|(with_reducible first|refine uk ?_|refine wk ?_ ?_<;>intro _|refine callE hb ?_)|simp -implicitDefEqProofs(disch:=first|assumption|omega)[*])
      all_goals exact EndsE.eqat rfl (by simp)
     all_goals
      clear hd hb
      refine ac0 Tryz.func121 Tryz.ntmps121 ?_
      have hrs:Tryz.f121.results = #[.tmp 4]:=rfl
      repeat' (first|(with_reducible first|refine uk ?_|refine wk ?_ ?_<;>intro _)|simp -implicitDefEqProofs(disch:=first|assumption|omega)[*])
      all_goals exact EndsE.eqat rfl (by simp)
    all_goals
     clear hd hb
     refine ac0 Tryz.func121 Tryz.ntmps121 ?_
     have hrs:Tryz.f121.results = #[.tmp 4]:=rfl
     repeat' (first|(with_reducible first|refine uk ?_|refine wk ?_ ?_<;>intro _)|simp -implicitDefEqProofs(disch:=first|assumption|omega)[*])
     all_goals exact EndsE.eqat rfl (by simp)
   all_goals
    clear hd hb
    refine ac0 Tryz.func121 Tryz.ntmps121 ?_
    have hrs:Tryz.f121.results = #[.tmp 4]:=rfl
    repeat' (first|(with_reducible first|refine uk ?_|refine wk ?_ ?_<;>intro _)|simp -implicitDefEqProofs(disch:=first|assumption|omega)[*])
    all_goals exact EndsE.eqat rfl (by simp)
  all_goals
   clear hd hb
   refine ac0 Tryz.func121 Tryz.ntmps121 ?_
   have hrs:Tryz.f121.results = #[.tmp 4]:=rfl
   repeat' (first|(with_reducible first|refine uk ?_|refine wk ?_ ?_<;>intro _)|simp -implicitDefEqProofs(disch:=first|assumption|omega)[*])
   all_goals exact EndsE.eqat rfl (by simp)
@[simp] def P42:Nat→Plan
 | 6=>(.qs [0,1,2,3,4,5,6,7,8,9] (.w 10 [] (.qs [11] .nil)))
 | _=>.nil
theorem rsameR {a b:List (List Int)} (h:BigR a):PureE Tryz.prog 120 [row a,row b] (.bool (decide (a=b))):=rsameL_p (by have:=h.1;omega) fun k hk=>by have:=h.2 _ (nth_mem hk);omega
def same9 (c d:Cor):Bool:=decide (c.owners=d.owners) && (decide (c.counts=d.counts) && (decide (c.lockq=d.lockq) && (decide (c.waitq=d.waitq) && decide (c.downq=d.downq))))
def same10 (c d:Cor):Bool:=decide (c.bufs=d.bufs) && (decide (c.sendq=d.sendq) && decide (c.recvq=d.recvq))
theorem rsame9_p {c d:Cor} {n n':Int} {t t':LV} (h:BigC c):PureE Tryz.prog 122 [.agg (.int .i64 n :: t :: (Cor.lv c).drop 2),.agg (.int .i64 n' :: t' :: (Cor.lv d).drop 2)] (.bool (same9 c d)):=by
 refine .of fun s v=>?_
 have h1:=rsameI_p (a:=c.owners) (b:=d.owners) (by have:=h.owners;omega)
 have h2:=rsameI_p (a:=c.counts) (b:=d.counts) (by have:=h.counts;omega)
 have h3:=rsameR (b:=d.lockq) h.lockq
 have h4:=rsameR (b:=d.waitq) h.waitq
 have h5:=rsameR (b:=d.downq) h.downq
 unfold same9
 simp only [Cor.lv,List.drop_succ_cons,List.drop_zero]
 generalize decide (c.owners=d.owners)=b1 at *
 generalize decide (c.counts=d.counts)=b2 at *
 generalize decide (c.lockq=d.lockq)=b3 at *
 generalize decide (c.waitq=d.waitq)=b4 at *
 generalize decide (c.downq=d.downq)=b5 at *
 refine ac0 Tryz.func122 Tryz.ntmps122 ?_
 have hrs:Tryz.f122.results = #[.tmp 4]:=rfl
 repeat' (first|(with_reducible first|refine uk ?_|refine wk ?_ ?_<;>intro _|refine And.intro ?_ ?_|refine callE h1 ?_|refine callE h2 ?_|refine callE h3 ?_|refine callE h4 ?_|refine callE h5 ?_)|simp -implicitDefEqProofs(disch:=first|assumption|omega)[*])
 all_goals exact EndsE.eqat (by simp [*]) (by simp)
theorem rsame10_p {c d:Cor} {n n':Int} {t t':LV} (h:BigC c):PureE Tryz.prog 123 [.agg (.int .i64 n :: t :: (Cor.lv c).drop 2),.agg (.int .i64 n' :: t' :: (Cor.lv d).drop 2)] (.bool (same10 c d)):=by
 refine .of fun s v=>?_
 have h3:=rsameR (b:=d.bufs) h.bufs
 have h4:=rsameR (b:=d.sendq) h.sendq
 have h5:=rsameR (b:=d.recvq) h.recvq
 unfold same10
 simp only [Cor.lv,List.drop_succ_cons,List.drop_zero]
 generalize decide (c.bufs=d.bufs)=b3 at *
 generalize decide (c.sendq=d.sendq)=b4 at *
 generalize decide (c.recvq=d.recvq)=b5 at *
 refine ac0 Tryz.func123 Tryz.ntmps123 ?_
 have hrs:Tryz.f123.results = #[.tmp 4]:=rfl
 repeat' (first|(with_reducible first|refine uk ?_|refine wk ?_ ?_<;>intro _|refine And.intro ?_ ?_|refine callE h3 ?_|refine callE h4 ?_|refine callE h5 ?_)|simp -implicitDefEqProofs(disch:=first|assumption|omega)[*])
 all_goals exact EndsE.eqat (by simp [*]) (by simp)
theorem cor_eq (c d:Cor):decide (c=d)=(decide (c.now=d.now) && (decide (c.threads=d.threads) && (same9 c d && same10 c d))):=by
 obtain⟨a1,a2,a3,a4,a5,a6,a7,a8,a9,a10⟩:=c
 obtain⟨b1,b2,b3,b4,b5,b6,b7,b8,b9,b10⟩:=d
 rw [Bool.eq_iff_iff]
 simp only [same9,same10,decide_eq_true_eq,Bool.and_eq_true,Cor.mk.injEq]
 constructor
 ·rintro ⟨h1,h2,h3,h4,h5,h6,h7,h8,h9,h10⟩
  exact⟨h1,h2,⟨h3,h4,h6,h7,h8⟩,h5,h9,h10⟩
 ·rintro ⟨h1,h2,⟨h3,h4,h6,h7,h8⟩,h5,h9,h10⟩
  exact⟨h1,h2,h3,h4,h5,h6,h7,h8,h9,h10⟩
set_option maxHeartbeats 8000000 in
theorem rsame11_q {co d:Cor} {now now':Int} {th th':List Thr} {b9 b10:Bool} (h9:∀ n t n' t',PureE Tryz.prog 122 [.agg (.int .i64 n :: t :: (Cor.lv co).drop 2),.agg (.int .i64 n' :: t' :: (Cor.lv d).drop 2)] (.bool b9)) (h10:∀ n t n' t',PureE Tryz.prog 123 [.agg (.int .i64 n :: t :: (Cor.lv co).drop 2),.agg (.int .i64 n' :: t' :: (Cor.lv d).drop 2)] (.bool b10))
  (h1:th.length≤1000000) (ht:∀ k,k<th.length→PureE Tryz.prog 121 [.agg (nth th k).lv,.agg (nth th' k).lv] (.bool (decide (nth th k=nth th' k)))) :
  PureE Tryz.prog 42 [.agg [.int .i64 now,row th,row co.owners,row co.counts,row co.bufs,row co.lockq,row co.waitq,row co.downq,row co.sendq,row co.recvq],.agg [.int .i64 now',row th',row d.owners,row d.counts,row d.bufs,row d.lockq,row d.waitq,row d.downq,row d.sendq,row d.recvq]] (.bool (decide (now=now') && (decide (th=th') && (b9 && b10)))):=by
 refine .of fun s v=>?_
 replace h9:=h9 now (row th) now' (row th')
 replace h10:=h10 now (row th) now' (row th')
 simp only [Cor.lv,List.drop_succ_cons,List.drop_zero] at h9 h10
 by_cases hd:now=now'∧(th.length:Int)=th'.length
 ·obtain⟨rfl,w2⟩:=hd
  rw [decide_eq_true rfl,Bool.true_and]
  have hl:th.length=th'.length:=by omega
  have hno:∀ k,k<th.length→nth th k≠nth th' k→decide (th=th')=false:=fun k hk hn=>decide_eq_false fun e=>hn (by rw [e])
  have hyes:th.take th.length=th'.take th.length→decide (th=th')=true:=fun hI=>decide_eq_true (by rw [List.take_of_length_le (Nat.le_refl _),List.take_of_length_le (by omega)] at hI;exact hI)
  generalize decide (th=th')=R at *
  refine ac0 Tryz.func42 Tryz.ntmps42 ?_
  have hrs:Tryz.f42.results = #[.tmp 4]:=rfl
  repeat' (first|(with_reducible first|refine uk ?_|refine wk ?_ ?_<;>intro _|(refine dr P42 mixed ?_ ?_ ?_;kernel_rfl;kernel_rfl)|refine And.intro ?_ ?_)|simp -implicitDefEqProofs(disch:=first|assumption|omega)[*])
  refine aW_for (β:=Unit) false th.length (fun k _=>th.take k=th'.take k) (fun k _=>[(5,.int .i64 k),(20,.any),(21,.any),(22,.any),(23,.any),(24,.any),(27,.any),(28,.any),(29,.any),(30,.any),(31,.any),(32,.any),(33,.any),(34,.any),(35,.any),(36,.any),(37,.any),(38,.any),(4,.any),(25,.any),(26,.any)]) (fun _ _=>s++[.cells [.int .i64 now,row th,row co.owners,row co.counts,row co.bufs,row co.lockq,row co.waitq,row co.downq,row co.sendq,row co.recvq],.cells [.int .i64 now,row th',row d.owners,row d.counts,row d.bufs,row d.lockq,row d.waitq,row d.downq,row d.sendq,row d.recvq]]) (fun _ _=>v) ?_ ?_
  ·exact⟨(),by simp,fz0,rfl,rfl⟩
  rintro k _ hk hI
  by_cases hlt:k<th.length
  ·have hlb:(k:Int)<th'.length:=by omega
   have hx:=ix_in (l:=th) (i:=(k:Int)) (by omega) (by omega)
   have hy:=ix_in (l:=th') (i:=(k:Int)) (by omega) (by omega)
   rw [Int.toNat_natCast] at hx hy
   have hc:=ht _ hlt
   simp only [Thr.lv] at hc
   have hn:=hno k hlt
   clear hno hyes h9 h10 ht
   by_cases he:nth th k=nth th' k
   ·have hg:th.take (k+1)=th'.take (k+1):=by rw [take_succ_nth hlt,take_succ_nth (by omega),hI,he]
    rw [decide_eq_true he] at hc
    clear hn hI he hl
    repeat' (first|(with_reducible first|refine uk ?_|refine wk ?_ ?_<;>intro _|(refine dr P42 mixed ?_ ?_ ?_;kernel_rfl;kernel_rfl)|refine And.intro ?_ ?_|refine callE hc ?_)|simp -implicitDefEqProofs(disch:=first|assumption|omega)[*])
    all_goals exact⟨hlt,(),hg,fz,rfl,rfl⟩
   ·rw [decide_eq_false he] at hc
    rw [hn he]
    clear hn hI he hl
    repeat' (first|(with_reducible first|refine uk ?_|refine wk ?_ ?_<;>intro _|(refine dr P42 mixed ?_ ?_ ?_;kernel_rfl;kernel_rfl)|refine And.intro ?_ ?_|refine callE hc ?_)|simp -implicitDefEqProofs(disch:=first|assumption|omega)[*])
    all_goals exact EndsE.eqat (by simp) (by simp)
  ·have:k=th.length:=by omega
   subst this
   rw [hyes hI]
   clear hno hyes hI ht hl
   repeat' (first|(with_reducible first|refine uk ?_|refine wk ?_ ?_<;>intro _|(refine dr P42 mixed ?_ ?_ ?_;kernel_rfl;kernel_rfl)|refine And.intro ?_ ?_|refine callE h9 ?_|refine callE h10 ?_)|simp -implicitDefEqProofs(disch:=first|assumption|omega)[*])
   all_goals exact EndsE.eqat (by simp [*]) (by simp)
 ·have hf:(decide (now=now') && (decide (th=th') && (b9 && b10)))=false:=by
   rw [Bool.eq_false_iff]
   intro e
   simp only [Bool.and_eq_true,decide_eq_true_eq] at e
   exact hd ⟨e.1,by rw [e.2.1]⟩
  rw [hf]
  clear hf h9 h10 ht
  by_cases w1:now=now'
  ·subst w1
   have w2:¬ (th.length:Int)=th'.length:=fun e=>hd ⟨rfl,e⟩
   clear hd
   refine ac0 Tryz.func42 Tryz.ntmps42 ?_
   have hrs:Tryz.f42.results = #[.tmp 4]:=rfl
   repeat' (first|(with_reducible first|refine uk ?_|refine wk ?_ ?_<;>intro _|(refine dr P42 mixed ?_ ?_ ?_;kernel_rfl;kernel_rfl)|refine And.intro ?_ ?_)|simp -implicitDefEqProofs(disch:=first|assumption|omega)[*])
   all_goals exact EndsE.eqat rfl (by simp)
  ·clear hd
   refine ac0 Tryz.func42 Tryz.ntmps42 ?_
   have hrs:Tryz.f42.results = #[.tmp 4]:=rfl
   repeat' (first|(with_reducible first|refine uk ?_|refine wk ?_ ?_<;>intro _|(refine dr P42 mixed ?_ ?_ ?_;kernel_rfl;kernel_rfl)|refine And.intro ?_ ?_)|simp -implicitDefEqProofs(disch:=first|assumption|omega)[*])
   all_goals exact EndsE.eqat rfl (by simp)
theorem rsame11_p {c d:Cor} (h:BigC c):PureE Tryz.prog 42 [.agg [.int .i64 c.now,row c.threads,row c.owners,row c.counts,row c.bufs,row c.lockq,row c.waitq,row c.downq,row c.sendq,row c.recvq],.agg [.int .i64 d.now,row d.threads,row d.owners,row d.counts,row d.bufs,row d.lockq,row d.waitq,row d.downq,row d.sendq,row d.recvq]] (.bool (decide (c=d))):=by
 rw [cor_eq]
 exact rsame11_q (co:=c) (d:=d) (fun n t n' t'=>rsame9_p h) (fun n t n' t'=>rsame10_p h) h.threads.1 fun k hk=>by
  have hb:=h.threads.2 _ (nth_mem hk)
  exact rsameT_p hb.1 hb.2.1 hb.2.2
instance:DecidableEq Img:=fun a b=>decidable_of_iff (a.ver=b.ver∧a.ep=b.ep∧a.p=b.p∧a.c=b.c) ⟨fun ⟨h1,h2,h3,h4⟩=>by cases a;cases b;simp_all,fun h=>by subst h;exact⟨rfl,rfl,rfl,rfl⟩⟩
theorem rsame17_p {p q:Prog} {c d:Cor} {v1 e1 v2 e2:Int} (hp:OkProg p) (h:BigC c):PureE Tryz.prog 16 [.agg [.int .i64 v1,.int .i64 e1,row p.funcs,.int .i64 p.mutexes,row p.conds,row p.semas,row p.chans,row p.choices,.int .i64 p.threads,.int .i64 c.now,row c.threads,row c.owners,row c.counts,row c.bufs,row c.lockq,row c.waitq,row c.downq,row c.sendq,row c.recvq],.agg [.int .i64 v2,.int .i64 e2,row q.funcs,.int .i64 q.mutexes,row q.conds,row q.semas,row q.chans,row q.choices,.int .i64 q.threads,.int .i64 d.now,row d.threads,row d.owners,row d.counts,row d.bufs,row d.lockq,row d.waitq,row d.downq,row d.sendq,row d.recvq]] (.bool (decide ((⟨v1,e1,p,c⟩:Img)=⟨v2,e2,q,d⟩))):=by
 refine .of fun s v=>?_
 have hs:=rsame_p (fs:=p.funcs) (mu:=p.mutexes) (th:=p.threads) (co:=p.conds) (se:=p.semas) (ch:=p.chans) (cho:=p.choices) (fs':=q.funcs) (mu':=q.mutexes) (th':=q.threads) (co':=q.conds) (se':=q.semas) (ch':=q.chans) (cho':=q.choices) hp
 have hc:=rsame11_p (d:=d) h
 have e:decide ((⟨v1,e1,p,c⟩:Img)=⟨v2,e2,q,d⟩)=(decide (v1=v2) && (decide (e1=e2) && (decide (p=q) && decide (c=d)))):=by rw [Bool.eq_iff_iff];simp
 rw [e]
 have hs':PureE Tryz.prog 41 [.agg [row p.funcs,.int .i64 p.mutexes,row p.conds,row p.semas,row p.chans,row p.choices,.int .i64 p.threads],.agg [row q.funcs,.int .i64 q.mutexes,row q.conds,row q.semas,row q.chans,row q.choices,.int .i64 q.threads]] (.bool (decide (p=q))):=hs
 clear e hs
 generalize decide (p=q)=b1 at *
 generalize decide (c=d)=b2 at *
 refine ac0 Tryz.func16 Tryz.ntmps16 ?_
 have hrs:Tryz.f16.results = #[.tmp 4]:=rfl
 repeat' (first|(with_reducible first|refine uk ?_|refine wk ?_ ?_<;>intro _|refine And.intro ?_ ?_|refine callE hs' ?_|refine callE hc ?_)|simp -implicitDefEqProofs(disch:=first|assumption|omega)[*])
 all_goals exact EndsE.eqat (by simp [*]) (by simp)
@[simp] def P11:Nat→Plan
 | 17=>(.qs [0,1,2,3,4,5,6,7,8,9,10] (.w 11 [1] (.qs [12,13] (.w 14 [] .nil))))
 | 23=>(.qs [0,1,2,3,4,5,7] (.w 6 [1] (.qs [8] (.w 9 [] .nil))))
 | 26=>(.qs [0,1,2,3,4,5,7] (.w 6 [1] (.qs [8] (.w 9 [] .nil))))
 | _=>.nil
set_option maxHeartbeats 8000000 in
theorem turnB_p {ver ep:Int} {p:Prog} {c:Cor} {what at_ n w:Int} {k:Nat} (hs:SizeC c k) (hk:k≤2) (h1:I64 what) (h2:I64 at_) (hwe:around what 16=w) (hw:w=0∨w=1∨w=2∨w=3∨w=6∨w=7∨w=14) :
  PureC Tryz.prog 11 [.agg [.int .i64 ver,.int .i64 ep,row p.funcs,.int .i64 p.mutexes,row p.conds,row p.semas,row p.chans,row p.choices,.int .i64 p.threads,.int .i64 c.now,row c.threads,row c.owners,row c.counts,row c.bufs,row c.lockq,row c.waitq,row c.downq,row c.sendq,row c.recvq],.int .i64 what,.int .i64 at_,.int .i64 n] (.agg (turnC ⟨ver,ep,p,c⟩ what at_ n).lv):=by
 have hb:=hs.corB hk
 have hthr:=hs.thrB hk
 have hn:=hs.thr
 have ho:=hs.owners
 have hcn:=hs.counts
 have hne:c.threads≠[]:=fun e=>by rw [e] at hn;simp at hn
 have a16:=around_p (n:=what) (m:=16) h1 (by omega)
 unfold turnC
 rw [hwe] at a16
 rw [hwe]
 clear hwe
 have hat:=around_in (n:=at_) (m:=(c.threads.length:Int)) (by omega)
 have har:=around_p (n:=at_) (m:=(c.threads.length:Int)) h2 (by omega)
 have htt:∀ f,thrAt c at_ f = {c with threads:=c.threads.set (around at_ (c.threads.length:Int)).toNat (f (nth c.threads (around at_ (c.threads.length:Int)).toNat)) }:=fun _=>rfl
 generalize around at_ (c.threads.length:Int)=j at *
 obtain⟨i,rfl⟩:∃ i:Nat,j=i:=⟨j.toNat,by omega⟩
 rw [Int.toNat_natCast] at htt
 have hi:i<c.threads.length:=by omega
 intro s v
 refine aCalls_deep ?_
 refine ac1 Tryz.func11 Tryz.ntmps11 ?_
 have hrs:Tryz.f11.results = #[.cell 8 31]:=rfl
 repeat' (first|(with_reducible first|refine uk ?_|refine wk ?_ ?_<;>intro _|(refine dw P11 mixed ?_ ?_ ?_;kernel_rfl;kernel_rfl)|refine And.intro ?_ ?_)|simp -implicitDefEqProofs(disch:=first|assumption|omega)[*])
 refine aCalls_mono (clone11_o hb hthr hne) ?_
 intro x1 s1 v1 hc1
 obtain⟨J,d,xO,xC,dO,dC,rfl,hJ,hO,hC,nO,nC,hv1,rfl⟩:=hc1.two
 clear hc1
 have hd:=(List.getElem?_eq_some_iff.1 hJ).1
 have hJX:∀ Y,(J++Y)[d]? = some (.cells (rowCs c.threads)):=fun Y=>by rw [List.getElem?_append_left hd];exact hJ
 have hJs:∀ Y o,(J++Y).set d o=J.set d o++Y:=fun Y o=>by rw [List.set_append_left _ _ hd]
 have hJl:∀ X x,(J++x :: X)[J.length]? = some x:=fun X x=>by rw [List.getElem?_append_right (by simp)];simp
 have hJm:∀ X x o,(J.set d o++x :: X)[J.length]? = some x:=fun X x o=>by rw [List.getElem?_append_right (by simp)];simp
 have h5:(rowCs c.threads).length=c.threads.length*5:=by rw [rowCs_len];rfl
 have hk1:i*5+1≤(rowCs c.threads).length:=by omega
 have hk2:i*5+1+1≤(rowCs c.threads).length:=by omega
 clear h5
 have hki:(i:Int)<c.threads.length:=by omega
 have hkeep:∀ Y,∀ e,e≠d→e<J.length→(J++Y)[e]? = J[e]?:=fun Y e _ he=>List.getElem?_append_left he
 have hkeep2:∀ Y o,∀ e,e≠d→e<J.length→(J.set d o++Y)[e]? = J[e]?:=fun Y o e h he=>by rw [List.getElem?_append_left (by simpa using he),List.getElem?_set_ne (Ne.symm h)]
 have hT0:∀ A B Y,DeepV (s++(A :: B :: (J++Y))) s.length (.ref 5 (s.length+(d+2)) 0 c.threads.length false) (row c.threads):=fun A B Y=>DeepV.ref_row (by omega) (by rw [layB_get];exact hJX Y) (rowCs_ne (by decide) hne)
 have hO0:∀ A B Y,DeepV (s++(A :: B :: (J++Y))) s.length xO (row c.owners):=fun A B Y=>(hO.oth2 (hkeep Y) (fun _=>nO)).deep0 (by omega)
 have hC0:∀ A B Y,DeepV (s++(A :: B :: (J++Y))) s.length xC (row c.counts):=fun A B Y=>(hC.oth2 (hkeep Y) (fun _=>nC.1)).deep0 (by omega)
 have hO1:∀ A B Y o,DeepV (s++(A :: B :: (J.set d o++Y))) s.length xO (row c.owners):=fun A B Y o=>(hO.oth2 (hkeep2 Y o) (fun _=>nO)).deep0 (by omega)
 have hC1:∀ A B Y o,DeepV (s++(A :: B :: (J.set d o++Y))) s.length xC (row c.counts):=fun A B Y o=>(hC.oth2 (hkeep2 Y o) (fun _=>nC.1)).deep0 (by omega)
 have hT1:∀ A B Y (l:List Thr),l.length=c.threads.length→DeepV (s++(A :: B :: (J.set d (.cells (rowCs l))++Y))) s.length (.ref 5 (s.length+(d+2)) 0 c.threads.length false) (row l):=fun A B Y l hl=>by
  have:=DeepV.ref_row (S:=s++(A :: B :: (J.set d (.cells (rowCs l))++Y))) (n:=s.length) (id:=s.length+(d+2)) (fl:=false) (l:=l) (by omega) (by rw [layB_get,List.getElem?_append_left (by simpa using hd),List.getElem?_set_self hd]) (rowCs_ne (by decide) (fun e=>by rw [e] at hl;simp at hl;omega))
  rw [hl] at this;exact this
 rcases hw with rfl | rfl | rfl | rfl | rfl | rfl | rfl
 ·repeat' (first|(with_reducible first|refine uk ?_|refine wk ?_ ?_<;>intro _|(refine dw P11 mixed ?_ ?_ ?_;kernel_rfl;kernel_rfl)|refine And.intro ?_ ?_|refine callE a16 ?_|refine callE har ?_)|simp -implicitDefEqProofs(disch:=first|assumption|omega)[*])
  all_goals exact img_deep (hT0 _ _ _) (hO0 _ _ _) (hC0 _ _ _) (rowD _) (rowD _) (rowD _) (rowD _) (rowD _) (rowD _)
 ·repeat' (first|(with_reducible first|refine uk ?_|refine wk ?_ ?_<;>intro _|(refine dw P11 mixed ?_ ?_ ?_;kernel_rfl;kernel_rfl)|refine And.intro ?_ ?_|refine callE a16 ?_|refine callE har ?_)|simp -implicitDefEqProofs(disch:=first|assumption|omega)[*])
  all_goals exact img_deep (c:={c with now:=n }) (hT0 _ _ _) (hO0 _ _ _) (hC0 _ _ _) (rowD _) (rowD _) (rowD _) (rowD _) (rowD _) (rowD _)
 ·repeat' (first|(with_reducible first|refine uk ?_|refine wk ?_ ?_<;>intro _|(refine dw P11 mixed ?_ ?_ ?_;kernel_rfl;kernel_rfl)|refine And.intro ?_ ?_|refine callE a16 ?_|refine callE har ?_)|simp -implicitDefEqProofs(disch:=first|assumption|omega)[*])
  all_goals
   rw [rowCs_st n c.threads hi]
   exact img_deep (c:=thrAt c at_ fun t=>{t with state:=n }) (by rw [htt];exact hT1 _ _ _ _ (by simp)) (hO1 _ _ _ _) (hC1 _ _ _ _) (rowD _) (rowD _) (rowD _) (rowD _) (rowD _) (rowD _)
 ·repeat' (first|(with_reducible first|refine uk ?_|refine wk ?_ ?_<;>intro _|(refine dw P11 mixed ?_ ?_ ?_;kernel_rfl;kernel_rfl)|refine And.intro ?_ ?_|refine callE a16 ?_|refine callE har ?_)|simp -implicitDefEqProofs(disch:=first|assumption|omega)[*])
  all_goals
   rw [rowCs_on n c.threads hi]
   exact img_deep (c:=thrAt c at_ fun t=>{t with on:=n }) (by rw [htt];exact hT1 _ _ _ _ (by simp)) (hO1 _ _ _ _) (hC1 _ _ _ _) (rowD _) (rowD _) (rowD _) (rowD _) (rowD _) (rowD _)
 ·rcases hO with ⟨e0,e1,rfl⟩ | ⟨e0,q2,rfl,q4,q5⟩
  ·have e2:∀ m,c.owners.set m n=c.owners:=fun m=>List.set_eq_of_length_le (by omega)
   have e0':¬ (0:Int)<c.owners.length:=by omega
   repeat' (first|(with_reducible first|refine uk ?_|refine wk ?_ ?_<;>intro _|(refine dw P11 mixed ?_ ?_ ?_;kernel_rfl;kernel_rfl)|refine And.intro ?_ ?_|refine callE a16 ?_|refine callE har ?_)|simp -implicitDefEqProofs(disch:=first|assumption|omega)[*])
   all_goals
    show DeepV _ _ _ (.agg (Img.lv ⟨_,_,_,{c with owners:=c.owners.set _ n }⟩))
    rw [e2]
    exact img_deep (hT0 _ _ _) (hO0 _ _ _) (hC0 _ _ _) (rowD _) (rowD _) (rowD _) (rowD _) (rowD _) (rowD _)
  ·have am:=around_in (n:=at_) (m:=(c.owners.length:Int)) (by omega)
   have a2:=around_p (n:=at_) (m:=(c.owners.length:Int)) h2 (by omega)
   have e0':(0:Int)<c.owners.length:=by omega
   have e0'':0<c.owners.length:=by omega
   have htw:turnW c 6 at_ n = {c with owners:=c.owners.set (around at_ (c.owners.length:Int)).toNat n }:=rfl
   rw [htw]
   clear htw
   generalize around at_ (c.owners.length:Int)=m at *
   obtain⟨m,rfl⟩:∃ i:Nat,m=i:=⟨m.toNat,by omega⟩
   rw [Int.toNat_natCast]
   have hm:m<c.owners.length:=by omega
   rw [layB_get] at q4
   have hd2:=(List.getElem?_eq_some_iff.1 q4).1
   have g1:∀ Y,(J++Y)[dO]? = some (.cells (rowCs c.owners)):=fun Y=>by rw [List.getElem?_append_left hd2];exact q4
   have g2:∀ Y o,(J++Y).set dO o=J.set dO o++Y:=fun Y o=>by rw [List.set_append_left _ _ hd2]
   have g3:∀ X x o,(J.set dO o++x :: X)[J.length]? = some x:=fun X x o=>by rw [List.getElem?_append_right (by simp)];simp
   have g4:m+1≤(rowCs c.owners).length:=by rw [q5];omega
   have g5:m≤(rowCs c.owners).length:=by omega
   have g6:(m:Int)<c.owners.length:=by omega
   have g7:m+1≤c.owners.length:=by omega
   have kp:∀ Y o,∀ e,e≠dO→e<J.length→(J.set dO o++Y)[e]? = J[e]?:=fun Y o e h he=>by rw [List.getElem?_append_left (by simpa using he),List.getElem?_set_ne (Ne.symm h)]
   have hT2:∀ A B Y o,DeepV (s++(A :: B :: (J.set dO o++Y))) s.length (.ref 5 (s.length+(d+2)) 0 c.threads.length false) (row c.threads):=fun A B Y o=>DeepV.ref_row (by omega) (by rw [layB_get,kp Y o d (by have:=nO;have:=nC;omega) hd];exact hJ) (rowCs_ne (by decide) hne)
   have hX2:∀ A B Y (l:List Int),l.length=c.owners.length→DeepV (s++(A :: B :: (J.set dO (.cells (rowCs l))++Y))) s.length (.ref 1 (s.length+(dO+2)) 0 c.owners.length false) (row l):=fun A B Y l hl=>by
    have:=DeepV.ref_row (S:=s++(A :: B :: (J.set dO (.cells (rowCs l))++Y))) (n:=s.length) (id:=s.length+(dO+2)) (fl:=false) (l:=l) (by omega) (by rw [layB_get,List.getElem?_append_left (by simpa using hd2),List.getElem?_set_self hd2]) (rowCs_ne (by decide) (fun e=>by rw [e] at hl;simp at hl;omega))
    rw [hl] at this;exact this
   have hY2:∀ A B Y o,DeepV (s++(A :: B :: (J.set dO o++Y))) s.length xC (row c.counts):=fun A B Y o=>(hC.oth2 (kp Y o) (fun _=>Ne.symm (nC.2 e0))).deep0 (by omega)
   clear hJ hJX hJs hJm hT0 hO0 hC0 hO1 hC1 hT1 hkeep hkeep2
   repeat' (first|(with_reducible first|refine uk ?_|refine wk ?_ ?_<;>intro _|(refine dw P11 mixed ?_ ?_ ?_;kernel_rfl;kernel_rfl)|refine And.intro ?_ ?_|refine callE a16 ?_|refine callE har ?_|refine callE a2 ?_)|simp -implicitDefEqProofs(disch:=first|assumption|omega)[*])
   all_goals
    rw [rowCs_set]
    exact img_deep (c:={c with owners:=c.owners.set m n }) (hT2 _ _ _ _) (hX2 _ _ _ _ (by simp)) (hY2 _ _ _ _) (rowD _) (rowD _) (rowD _) (rowD _) (rowD _) (rowD _)
 ·rcases hC with ⟨e0,e1,rfl⟩ | ⟨e0,q2,rfl,q4,q5⟩
  ·have e2:∀ m,c.counts.set m n=c.counts:=fun m=>List.set_eq_of_length_le (by omega)
   have e0':¬ (0:Int)<c.counts.length:=by omega
   repeat' (first|(with_reducible first|refine uk ?_|refine wk ?_ ?_<;>intro _|(refine dw P11 mixed ?_ ?_ ?_;kernel_rfl;kernel_rfl)|refine And.intro ?_ ?_|refine callE a16 ?_|refine callE har ?_)|simp -implicitDefEqProofs(disch:=first|assumption|omega)[*])
   all_goals
    show DeepV _ _ _ (.agg (Img.lv ⟨_,_,_,{c with counts:=c.counts.set _ n }⟩))
    rw [e2]
    exact img_deep (hT0 _ _ _) (hO0 _ _ _) (hC0 _ _ _) (rowD _) (rowD _) (rowD _) (rowD _) (rowD _) (rowD _)
  ·have am:=around_in (n:=at_) (m:=(c.counts.length:Int)) (by omega)
   have a2:=around_p (n:=at_) (m:=(c.counts.length:Int)) h2 (by omega)
   have e0':(0:Int)<c.counts.length:=by omega
   have e0'':0<c.counts.length:=by omega
   have htw:turnW c 7 at_ n = {c with counts:=c.counts.set (around at_ (c.counts.length:Int)).toNat n }:=rfl
   rw [htw]
   clear htw
   generalize around at_ (c.counts.length:Int)=m at *
   obtain⟨m,rfl⟩:∃ i:Nat,m=i:=⟨m.toNat,by omega⟩
   rw [Int.toNat_natCast]
   have hm:m<c.counts.length:=by omega
   rw [layB_get] at q4
   have hd2:=(List.getElem?_eq_some_iff.1 q4).1
   have g1:∀ Y,(J++Y)[dC]? = some (.cells (rowCs c.counts)):=fun Y=>by rw [List.getElem?_append_left hd2];exact q4
   have g2:∀ Y o,(J++Y).set dC o=J.set dC o++Y:=fun Y o=>by rw [List.set_append_left _ _ hd2]
   have g3:∀ X x o,(J.set dC o++x :: X)[J.length]? = some x:=fun X x o=>by rw [List.getElem?_append_right (by simp)];simp
   have g4:m+1≤(rowCs c.counts).length:=by rw [q5];omega
   have g5:m≤(rowCs c.counts).length:=by omega
   have g6:(m:Int)<c.counts.length:=by omega
   have g7:m+1≤c.counts.length:=by omega
   have kp:∀ Y o,∀ e,e≠dC→e<J.length→(J.set dC o++Y)[e]? = J[e]?:=fun Y o e h he=>by rw [List.getElem?_append_left (by simpa using he),List.getElem?_set_ne (Ne.symm h)]
   have hT2:∀ A B Y o,DeepV (s++(A :: B :: (J.set dC o++Y))) s.length (.ref 5 (s.length+(d+2)) 0 c.threads.length false) (row c.threads):=fun A B Y o=>DeepV.ref_row (by omega) (by rw [layB_get,kp Y o d (by have:=nO;have:=nC;omega) hd];exact hJ) (rowCs_ne (by decide) hne)
   have hX2:∀ A B Y (l:List Int),l.length=c.counts.length→DeepV (s++(A :: B :: (J.set dC (.cells (rowCs l))++Y))) s.length (.ref 1 (s.length+(dC+2)) 0 c.counts.length false) (row l):=fun A B Y l hl=>by
    have:=DeepV.ref_row (S:=s++(A :: B :: (J.set dC (.cells (rowCs l))++Y))) (n:=s.length) (id:=s.length+(dC+2)) (fl:=false) (l:=l) (by omega) (by rw [layB_get,List.getElem?_append_left (by simpa using hd2),List.getElem?_set_self hd2]) (rowCs_ne (by decide) (fun e=>by rw [e] at hl;simp at hl;omega))
    rw [hl] at this;exact this
   have hY2:∀ A B Y o,DeepV (s++(A :: B :: (J.set dC o++Y))) s.length xO (row c.owners):=fun A B Y o=>(hO.oth2 (kp Y o) (fun h0=>nC.2 h0)).deep0 (by omega)
   clear hJ hJX hJs hJm hT0 hO0 hC0 hO1 hC1 hT1 hkeep hkeep2
   repeat' (first|(with_reducible first|refine uk ?_|refine wk ?_ ?_<;>intro _|(refine dw P11 mixed ?_ ?_ ?_;kernel_rfl;kernel_rfl)|refine And.intro ?_ ?_|refine callE a16 ?_|refine callE har ?_|refine callE a2 ?_)|simp -implicitDefEqProofs(disch:=first|assumption|omega)[*])
   all_goals
    rw [rowCs_set]
    exact img_deep (c:={c with counts:=c.counts.set m n }) (hT2 _ _ _ _) (hY2 _ _ _ _) (hX2 _ _ _ _ (by simp)) (rowD _) (rowD _) (rowD _) (rowD _) (rowD _) (rowD _)
 ·repeat' (first|(with_reducible first|refine uk ?_|refine wk ?_ ?_<;>intro _|(refine dw P11 mixed ?_ ?_ ?_;kernel_rfl;kernel_rfl)|refine And.intro ?_ ?_|refine callE a16 ?_|refine callE har ?_)|simp -implicitDefEqProofs(disch:=first|assumption|omega)[*])
  all_goals exact img_deep (hT0 _ _ _) (hO0 _ _ _) (hC0 _ _ _) (rowD _) (rowD _) (rowD _) (rowD _) (rowD _) (rowD _)
end Go.Hb
end
