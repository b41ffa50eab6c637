/-
  A layer for reasoning about the program's calls, and contracts of its functions. CONDITIONS: none; each theorem bears its own.
-/
import Derived.Test.YtieoaonaijbijaaGreatG33
import Derived.Test.YtieoaonaijbijaaGreatG17
import Derived.Test.YtieoaonaijbijaaGreatG09
import Derived.Test.YtieoaonaijbijaaGreatG10
import Derived.Test.YtieoaonaijbijaaGreatG18
import Derived.Test.YtieoaonaijbijaaGreatG27
import Derived.Test.YtieoaonaijbijaaGreatG28
import Derived.Test.YtieoaonaijbijaaGreatG30
set_option linter.unusedVariables false
set_option linter.unusedSimpArgs false
section
namespace Go.Hb
open Go Go.Proofs Go.RowKit
set_option maxRecDepth 100000
set_option maxHeartbeats 800000
attribute [-simp] aC aL aOper aThen aInBlock aIf aPlan aAppend aLen aIndexAddr aSlice aCells aBounds lBr aq initT aev aAppendOwn aAppendNil aAppendNew aAppendRef LV.cells LV.cellsOk getElem?_pos getElem?_neg
theorem bet1_p {a b n:Int} {s:List AObj} {i j:Nat} (hi:s[i]? = some (.cells [.int .i64 a])) (hj:s[j]? = some (.cells [.int .i64 b])):Ret Tryz.prog 125 [.int .i64 n,.ptr i 0,.ptr j 0] s (.bool (decide (n<a) || decide (b<n))):=by
 refine .of fun v=>?_
 refine ac0 Tryz.func125 Tryz.ntmps125 ?_
 have hrs:Tryz.f125.results = #[.tmp 4]:=rfl
 repeat' (first|(with_reducible first|refine uk ?_|refine wk ?_ ?_<;>intro _)|simp -implicitDefEqProofs(disch:=first|assumption|omega)[*])
 all_goals first|(exfalso;omega)|exact Ends.eq (by simp [*]) (by simp) (List.prefix_refl _)
theorem ibet_p {l:List Int} {a b:Int} (hl:l.length≤1000000):PureC Tryz.prog 43 [row l,.int .i64 a,.int .i64 b] (.bool (betC l a b)):=by
 refine .of fun s v=>?_
 have hc:Ret Tryz.prog 124 [row l,.fn (.func 125) [] [.ptr s.length 0,.ptr (s.length+1) 0]] (s++[.cells [.int .i64 a],.cells [.int .i64 b]]) (.bool (l.any fun n=>decide (n<a) || decide (b<n))):=containsFunc_int (by omega) fun k hk=>bet1_p (by simp) (by simp [get_app])
 have e:betC l a b = !(l.any fun n=>decide (n<a) || decide (b<n)):=by unfold betC;rw [List.not_any_eq_all_not]
 rw [e]
 generalize (l.any fun n=>decide (n<a) || decide (b<n))=x at *
 refine ac0 Tryz.func43 Tryz.ntmps43 ?_
 have hrs:Tryz.f43.results = #[.tmp 6]:=rfl
 repeat' (first|(with_reducible first|refine uk ?_|refine wk ?_ ?_<;>intro _|refine callR hc (fun v2 hv2=>?_))|simp -implicitDefEqProofs(disch:=first|assumption|omega)[*])
 exact Ends.eqat (by simp) (by simp) hv2
theorem ibet_imm {l:List Int} {a b:Int} {cs:List LV} {r:Right} (hl:l.length≤1000000) (h:cs=rowCs l):PureC Tryz.prog 43 [.imm 1 l.length cs r,.int .i64 a,.int .i64 b] (.bool (betC l a b)):=fun s v=>by
 subst h
 exact aCalls_argw (args':=[row l,.int .i64 a,.int .i64 b]) ⟨Weak.row (Weaks.refl _) rfl,Weak.refl _,Weak.refl _,trivial⟩ (ibet_p hl s v)
theorem irows_p {L:List (List Int)} {n:Int} {f:Nat→Bool} {g:FuncId} {ca:List LV} {s:List AObj} (hb:L.length≤1000000) (h:∀ k,k<L.length→(k:Int)<n→Ret Tryz.prog g (.int .i64 k :: row (nth L k) :: ca) s (.bool (f k))) :
  Ret Tryz.prog 51 [row L,.int .i64 n,.fn (.func g) [] ca] s (.bool (rowsI L n f)):=by
 refine .of fun v=>?_
 have hno:∀ k,k<L.length→((n:Int)≤k∨f k=false)→rowsI L n f=false:=fun k hk hc=>by
  unfold rowsI
  rcases hc with hc | hc
  ·rw [decide_eq_false (by omega)];rfl
  ·have:(List.range L.length).all f=false:=by
    rw [Bool.eq_false_iff];intro h1
    have:=List.all_eq_true.1 h1 k (by simpa using hk)
    rw [hc] at this;cases this
   rw [this];simp
 have hyes:(∀ k,k<L.length→f k=true)→rowsI L n f=decide ((L.length:Int)=n):=fun h1=>by
  unfold rowsI;rw [range_all.2 h1];simp
 generalize rowsI L n f=R at *
 refine ac0 Tryz.func51 Tryz.ntmps51 ?_
 have hrs:Tryz.f51.results = #[.tmp 6]:=rfl
 repeat' (first|(with_reducible first|refine uk ?_|refine wk ?_ ?_<;>intro _)|simp -implicitDefEqProofs(disch:=first|assumption|omega)[*])
 refine aW_for (β:=List Nat) false L.length (fun k v1=>v <+: v1∧∀ j,j<k→f j=true) (fun k _=>[(11,.int .i64 k),(12,.any),(13,.any),(14,.any),(15,.any),(7,.any),(8,.any),(16,.any),(17,.any),(18,.any),(19,.any),(20,.any),(21,.any),(22,.any),(23,.any),(24,.any),(25,.any),(6,.any),(26,.any)]) (fun _ _=>s) (fun _ v1=>v1) ?_ ?_
 ·exact⟨v,⟨List.prefix_refl _,by simp⟩,fz0,rfl,rfl⟩
 rintro k v1 hk ⟨hv,hI⟩
 by_cases hlt:k<L.length
 ·have hix:=ix_in (l:=L) (i:=(k:Int)) (by omega) (by omega)
  rw [Int.toNat_natCast] at hix
  have hlt':(k:Int)<L.length:=by omega
  by_cases hn:n≤(k:Int)
  ·rw [hno k hlt (.inl hn)]
   clear hno hyes hI
   repeat' (first|(with_reducible first|refine uk ?_|refine wk ?_ ?_<;>intro _)|simp -implicitDefEqProofs(disch:=first|assumption|omega)[*])
   all_goals exact Ends.eq rfl (by simp) hv
  ·have hh:=h k hlt (by omega)
   have hno':=fun e=>hno k hlt (.inr e)
   have hg:f k=true→∀ j,j<k+1→f j=true:=fun hp j hj=>by
    by_cases e:j=k
    ·subst e;exact hp
    ·exact hI j (by omega)
   clear hno hyes hI
   generalize f k=b at *
   cases b
   ·rw [hno' rfl]
    clear hno' hg
    repeat' (first|(with_reducible first|refine uk ?_|refine wk ?_ ?_<;>intro _|refine callR hh (fun v2 hv2=>?_))|simp -implicitDefEqProofs(disch:=first|assumption|omega)[*])
    all_goals exact Ends.eq rfl (by simp) (hv.trans hv2)
   ·have hg':=hg rfl
    clear hno' hg
    repeat' (first|(with_reducible first|refine uk ?_|refine wk ?_ ?_<;>intro _|refine callR hh (fun v2 hv2=>?_))|simp -implicitDefEqProofs(disch:=first|assumption|omega)[*])
    all_goals exact⟨hlt,v2,⟨hv.trans hv2,hg'⟩,fz,rfl,rfl⟩
 ·have:k=L.length:=by omega
  subst this
  rw [hyes hI]
  clear hno hyes hI
  repeat' (first|(with_reducible first|refine uk ?_|refine wk ?_ ?_<;>intro _)|simp -implicitDefEqProofs(disch:=first|assumption|omega)[*])
  all_goals exact Ends.eq (by simp) (by simp) hv
theorem ishape1_p {p:Prog} {t:Thr} {s:List AObj} {i:Nat} (hi:s[i]? = some (.cells [row p.funcs,.int .i64 p.mutexes,row p.conds,row p.semas,row p.chans,row p.choices,.int .i64 p.threads])) (h1:t.frames.length≤1000000) (h2:t.stack.length≤1000000) (h3:∀ f∈t.frames,f.locals.length≤1000000) (hp:p.funcs.length≤1000000):Ret Tryz.prog 46 [.agg [.int .i64 t.state,.int .i64 t.on,row t.frames,row t.stack,.int .i64 t.code],.ptr i 0] s (.bool (!thrK p t)):=by
 refine .of fun v=>?_
 have hid:=(List.getElem?_eq_some_iff.1 hi).1
 have hsl:∀ l,(s++l)[i]? = some (.cells [row p.funcs,.int .i64 p.mutexes,row p.conds,row p.semas,row p.chans,row p.choices,.int .i64 p.threads]):=fun l=>by rw [List.getElem?_append_left hid];exact hi
 have hm:=smayT_p (p:=p) h1 h2 h3 hp
 simp only [Thr.lv] at hm
 generalize thrK p t=b at *
 clear h1 h2 h3
 refine ac0 Tryz.func46 Tryz.ntmps46 ?_
 have hrs:Tryz.f46.results = #[.tmp 3]:=rfl
 repeat' (first|(with_reducible first|refine uk ?_|refine wk ?_ ?_<;>intro _|refine callC hm (fun v2 hv2=>?_))|simp -implicitDefEqProofs(disch:=first|assumption|omega)[*])
 all_goals exact Ends.eqat (by simp) (by simp) hv2
theorem ishape2_p {l:List Int} {t:Int} {k:Int} {s:List AObj} {i:Nat} (hi:s[i]? = some (.cells [.int .i64 (t - 1)])) (hl:l.length≤1000000):Ret Tryz.prog 48 [.int .i64 k,row l,.ptr i 0] s (.bool (rowK t l)):=by
 refine .of fun v=>?_
 have hb:=ibet_p (l:=l) (a:=0) (b:=t - 1) hl
 have e:rowK t l=(decide ((l.length:Int)≤32) && betC l 0 (t - 1)):=by
  unfold rowK
  rw [Bool.and_comm]
  congr 1
  rw [Bool.eq_iff_iff];simp;omega
 rw [e]
 clear e
 generalize betC l 0 (t - 1)=b at *
 refine ac0 Tryz.func48 Tryz.ntmps48 ?_
 have hrs:Tryz.f48.results = #[.tmp 5]:=rfl
 repeat' (first|(with_reducible first|refine uk ?_|refine wk ?_ ?_<;>intro _|refine callC hb (fun v2 hv2=>?_))|simp -implicitDefEqProofs(disch:=first|assumption|omega)[*])
 all_goals exact Ends.eq (by simp [*]) (by simp) (by first|assumption|exact List.prefix_refl _)
theorem ishape3_p {l:List Int} {p:Prog} {k:Nat} {s:List AObj} {i j:Nat} (hi:s[i]? = some (.cells [row p.funcs,.int .i64 p.mutexes,row p.conds,row p.semas,row p.chans,row p.choices,.int .i64 p.threads])) (hj:s[j]? = some (.cells [.int .i64 1073741824])) (hk:k<p.chans.length) (hl:l.length≤1000000):Ret Tryz.prog 49 [.int .i64 k,row l,.ptr i 0,.ptr j 0] s (.bool (bufI p l k)):=by
 refine .of fun v=>?_
 have hb:=ibet_p (l:=l) (a:= -1073741824) (b:=1073741824) hl
 have hix:=ix_in (l:=p.chans) (i:=(k:Int)) (by omega) (by omega)
 rw [Int.toNat_natCast] at hix
 have hk':(k:Int)<p.chans.length:=by omega
 unfold bufI
 generalize betC l (-1073741824) 1073741824=b at *
 refine ac0 Tryz.func49 Tryz.ntmps49 ?_
 have hrs:Tryz.f49.results = #[.tmp 6]:=rfl
 repeat' (first|(with_reducible first|refine uk ?_|refine wk ?_ ?_<;>intro _|refine callC hb (fun v2 hv2=>?_))|simp -implicitDefEqProofs(disch:=first|assumption|omega)[*])
 all_goals exact Ends.eq (by simp [*]) (by simp) (by first|assumption|exact List.prefix_refl _)
theorem tmod2 (k:Nat):(k:Int).tmod 2=((k % 2:Nat):Int):=by rw [Int.tmod_eq_emod_of_nonneg (by omega)];omega
theorem bet_one (n a b:Int):betC [n] a b=inB n a b:=by simp [betC,inB]
set_option maxHeartbeats 4000000 in
theorem ishape4_p {l:List Int} {t:Int} {z:Int} {s:List AObj} {i j:Nat} (hi:s[i]? = some (.cells [.int .i64 (t - 1)])) (hj:s[j]? = some (.cells [.int .i64 1073741824])) (hl:l.length≤1000000):Ret Tryz.prog 50 [.int .i64 z,row l,.ptr i 0,.ptr j 0] s (.bool (sendI t l)):=by
 refine .of fun v=>?_
 have hno:∀ k,k<l.length→sendO t l k=false→sendI t l=false:=fun k hk hc=>by
  unfold sendI
  have:(List.range l.length).all (sendO t l)=false:=by
   rw [Bool.eq_false_iff];intro h1
   have:=List.all_eq_true.1 h1 k (by simpa using hk)
   rw [hc] at this;cases this
  rw [this];rfl
 have hyes:(∀ k,k<l.length→sendO t l k=true)→sendI t l=(decide ((l.length:Int)≤64) && decide ((l.length:Int).tmod 2=0)):=fun h1=>by
  unfold sendI;rw [range_all.2 h1,Bool.true_and]
  congr 1
  rw [decide_eq_decide,tmod2];omega
 generalize sendI t l=R at *
 refine ac0 Tryz.func50 Tryz.ntmps50 ?_
 have hrs:Tryz.f50.results = #[.tmp 6]:=rfl
 repeat' (first|(with_reducible first|refine uk ?_|refine wk ?_ ?_<;>intro _)|simp -implicitDefEqProofs(disch:=first|assumption|omega)[*])
 refine aW_for (β:=List Nat) false l.length (fun k v1=>v <+: v1∧∀ j,j<k→sendO t l j=true) (fun k _=>[(11,.int .i64 k),(12,.any),(13,.any),(14,.any),(15,.any),(7,.any),(8,.any),(16,.any),(17,.any),(18,.any),(19,.any),(20,.any),(21,.any),(22,.any),(23,.any),(24,.any),(25,.any),(26,.any),(27,.any),(28,.any),(29,.any),(30,.any),(31,.any),(32,.any),(33,.any),(34,.any),(35,.any),(36,.any),(37,.any),(38,.any),(39,.any),(6,.any),(40,.any)]) (fun _ _=>s) (fun _ v1=>v1) ?_ ?_
 ·exact⟨v,⟨List.prefix_refl _,by simp⟩,fz0,rfl,rfl⟩
 rintro k v1 hk ⟨hv,hI⟩
 by_cases hlt:k<l.length
 ·have hix:=ix_in (l:=l) (i:=(k:Int)) (by omega) (by omega)
  rw [Int.toNat_natCast] at hix
  have hlt':(k:Int)<l.length:=by omega
  have hno':=hno k hlt
  have hg:sendO t l k=true→∀ j,j<k+1→sendO t l j=true:=fun hp j hj=>by
   by_cases e:j=k
   ·subst e;exact hp
   ·exact hI j (by omega)
  have hb1:=ibet_imm (l:=[nth l k]) (a:=0) (b:=t - 1) (r:=.full) (by simp) rfl
  have hb2:=ibet_imm (l:=[nth l k]) (a:= -1073741824) (b:=1073741824) (r:=.full) (by simp) rfl
  rw [bet_one] at hb1 hb2
  simp only [List.length_cons,List.length_nil,Nat.zero_add,rowCs_cons,rowCs_nil,enc_int,List.append_nil] at hb1 hb2
  clear hno hyes hI
  by_cases h2:k % 2=0
  ·have hs:sendO t l k=inB (nth l k) 0 (t - 1):=by unfold sendO;rw [if_pos h2]
   have hm:(k:Int).tmod 2=0:=by rw [tmod2];omega
   rw [hs] at hno' hg
   clear hs hb2
   generalize inB (nth l k) 0 (t - 1)=b at *
   cases b
   ·rw [hno' rfl]
    clear hno' hg
    repeat' (first|(with_reducible first|refine uk ?_|refine wk ?_ ?_<;>intro _|refine callC hb1 (fun v2 hv2=>?_))|simp -implicitDefEqProofs(disch:=first|assumption|omega)[*])
    all_goals exact Ends.eq rfl (by simp) (hv.trans hv2)
   ·have hg':=hg rfl
    clear hno' hg
    repeat' (first|(with_reducible first|refine uk ?_|refine wk ?_ ?_<;>intro _|refine callC hb1 (fun v2 hv2=>?_))|simp -implicitDefEqProofs(disch:=first|assumption|omega)[*])
    all_goals exact⟨hlt,v2,⟨hv.trans hv2,hg'⟩,fz,rfl,rfl⟩
  ·have hs:sendO t l k=inB (nth l k) (-1073741824) 1073741824:=by unfold sendO;rw [if_neg h2]
   have hm:¬ (k:Int).tmod 2=0:=by rw [tmod2];omega
   have hm1:(k:Int).tmod 2=1:=by rw [tmod2];omega
   rw [hs] at hno' hg
   clear hs hb1
   generalize inB (nth l k) (-1073741824) 1073741824=b at *
   cases b
   ·rw [hno' rfl]
    clear hno' hg
    repeat' (first|(with_reducible first|refine uk ?_|refine wk ?_ ?_<;>intro _|refine callC hb2 (fun v2 hv2=>?_))|simp -implicitDefEqProofs(disch:=first|assumption|omega)[*])
    all_goals exact Ends.eq rfl (by simp) (hv.trans hv2)
   ·have hg':=hg rfl
    clear hno' hg
    repeat' (first|(with_reducible first|refine uk ?_|refine wk ?_ ?_<;>intro _|refine callC hb2 (fun v2 hv2=>?_))|simp -implicitDefEqProofs(disch:=first|assumption|omega)[*])
    all_goals exact⟨hlt,v2,⟨hv.trans hv2,hg'⟩,fz,rfl,rfl⟩
 ·have:k=l.length:=by omega
  subst this
  rw [hyes hI]
  clear hno hyes hI
  repeat' (first|(with_reducible first|refine uk ?_|refine wk ?_ ?_<;>intro _)|simp -implicitDefEqProofs(disch:=first|assumption|omega)[*])
  all_goals exact Ends.eq (by simp [*]) (by simp) hv
@[simp] def P17:Nat→Plan
 | 1=>(.qs [0,1,2,3] (.or (.w 4 [3,1] (.w 5 [3,1] (.w 6 [3] (.w 7 [] .nil)))) (.w 5 [3,1] (.w 4 [3,1] (.w 6 [3] (.w 7 [] .nil))))))
 | _=>.nil
theorem bet_two (m n a b:Int):betC [m,n] a b=(inB m a b && inB n a b):=by simp [betC,inB]
set_option maxHeartbeats 8000000 in
theorem ishape_p {p:Prog} {c:Cor} {ver e:Int} (hp:mayP p=true) (h:BigC c):PureC Tryz.prog 17 [.agg [.int .i64 ver,.int .i64 e,row p.funcs,.int .i64 p.mutexes,row p.conds,row p.semas,row p.chans,row p.choices,.int .i64 p.threads,.int .i64 c.now,row c.threads,row c.owners,row c.counts,row c.bufs,row c.lockq,row c.waitq,row c.downq,row c.sendq,row c.recvq]] (.bool (shapeI e p c)):=by
 refine .of fun s v=>?_
 have hmp:=mayP_iff hp
 have hpf:=hmp.funcs.2
 have hm:=may_ok (ok_of_may hp)
 rw [hp] at hm
 have ht:=h.threads.1
 have hb0:=ibet_imm (l:=[e,c.now]) (a:=0) (b:=1073741824) (r:=.full) (by simp) rfl
 rw [bet_two] at hb0
 simp only [List.length_cons,List.length_nil,Nat.zero_add,rowCs_cons,rowCs_nil,enc_int,List.append_nil,List.cons_append,List.nil_append,Nat.reduceAdd] at hb0
 have hb1:=ibet_p (l:=c.owners) (a:= -1) (b:=(c.threads.length:Int) - 1) h.owners
 have hb2:=ibet_p (l:=c.counts) (a:=0) (b:=1073741824) h.counts
 have hc:∀ (S:List AObj) (ip:Nat),S[ip]? = some (.cells [row p.funcs,.int .i64 p.mutexes,row p.conds,row p.semas,row p.chans,row p.choices,.int .i64 p.threads])→Ret Tryz.prog 45 [row c.threads,.fn (.func 46) [] [.ptr ip 0]] S (.bool (c.threads.any fun t=> !thrK p t)):=fun S ip hS=>containsFunc_thr (by omega) fun k hk=>by
  have hb:=h.threads.2 _ (nth_mem hk)
  exact ishape1_p hS hb.1 hb.2.1 hb.2.2 (by omega)
 have hs2:∀ (L:List (List Int)) (n:Int),BigR L→∀ (S:List AObj) (il:Nat),S[il]? = some (.cells [.int .i64 ((c.threads.length:Int) - 1)])→Ret Tryz.prog 51 [row L,.int .i64 n,.fn (.func 48) [] [.ptr il 0]] S (.bool (rowsI L n fun k=>rowK c.threads.length (nth L k))):=fun L n hL S il hS=>irows_p (by have:=hL.1;omega) fun k hk _=>ishape2_p hS (by have:=hL.2 _ (nth_mem hk);omega)
 have r1:=hs2 c.lockq p.mutexes h.lockq
 have r2:=hs2 c.waitq p.conds.length h.waitq
 have r3:=hs2 c.downq p.semas.length h.downq
 have r4:=hs2 c.recvq p.chans.length h.recvq
 have r5:∀ (S:List AObj) (ip im:Nat),S[ip]? = some (.cells [row p.funcs,.int .i64 p.mutexes,row p.conds,row p.semas,row p.chans,row p.choices,.int .i64 p.threads])→S[im]? = some (.cells [.int .i64 1073741824])→Ret Tryz.prog 51 [row c.bufs,.int .i64 p.chans.length,.fn (.func 49) [] [.ptr ip 0,.ptr im 0]] S (.bool (rowsI c.bufs p.chans.length fun k=>bufI p (nth c.bufs k) k)):=fun S ip im h1 h2=>irows_p (by have:=h.bufs.1;omega) fun k hk hn=>ishape3_p h1 h2 (by omega) (by have:=h.bufs.2 _ (nth_mem hk);omega)
 have r6:∀ (S:List AObj) (il im:Nat),S[il]? = some (.cells [.int .i64 ((c.threads.length:Int) - 1)])→S[im]? = some (.cells [.int .i64 1073741824])→Ret Tryz.prog 51 [row c.sendq,.int .i64 p.chans.length,.fn (.func 50) [] [.ptr il 0,.ptr im 0]] S (.bool (rowsI c.sendq p.chans.length fun k=>sendI c.threads.length (nth c.sendq k))):=fun S il im h1 h2=>irows_p (by have:=h.sendq.1;omega) fun k hk hn=>ishape4_p h1 h2 (by have:=h.sendq.2 _ (nth_mem hk);omega)
 clear hs2 h hmp hp
 have hm':PureC Tryz.prog 44 [.agg [row p.funcs,.int .i64 p.mutexes,row p.conds,row p.semas,row p.chans,row p.choices,.int .i64 p.threads]] (.bool true):=hm
 clear hm
 unfold shapeI barI lockI semaI chanI
 generalize (inB e 0 1073741824 && inB c.now 0 1073741824)=b0 at *
 generalize (c.threads.any fun t=> !thrK p t)=b3 at *
 generalize betC c.owners (-1) ((c.threads.length:Int) - 1)=b1 at *
 generalize betC c.counts 0 1073741824=b2 at *
 generalize (rowsI c.lockq p.mutexes fun k=>rowK c.threads.length (nth c.lockq k))=x1 at *
 generalize (rowsI c.waitq p.conds.length fun k=>rowK c.threads.length (nth c.waitq k))=x2 at *
 generalize (rowsI c.downq p.semas.length fun k=>rowK c.threads.length (nth c.downq k))=x3 at *
 generalize (rowsI c.recvq p.chans.length fun k=>rowK c.threads.length (nth c.recvq k))=x4 at *
 generalize (rowsI c.bufs p.chans.length fun k=>bufI p (nth c.bufs k) k)=x5 at *
 generalize (rowsI c.sendq p.chans.length fun k=>sendI c.threads.length (nth c.sendq k))=x6 at *
 have hfe:decide (c.counts.length=p.semas.length)=decide ((c.counts.length:Int)=(p.semas.length:Int)):=by rw [decide_eq_decide];omega
 refine ac0 Tryz.func17 Tryz.ntmps17 ?_
 have hrs:Tryz.f17.results = #[.tmp 2]:=rfl
 repeat' (first|(with_reducible first|refine uk ?_|refine wk ?_ ?_<;>intro _|(refine dr P17 mixed ?_ ?_ ?_;kernel_rfl;kernel_rfl)|refine And.intro ?_ ?_|refine callC hb0 (fun v1 hv1=>?_)|refine callC hm' (fun v1 hv1=>?_)|refine callR (hc _ _ (by simp [get_app])) (fun v1 hv1=>?_)|refine callC hb1 (fun v1 hv1=>?_)|refine callC hb2 (fun v1 hv1=>?_)|refine callR (r1 _ _ (by simp [get_app])) (fun v1 hv1=>?_)|refine callR (r2 _ _ (by simp [get_app])) (fun v1 hv1=>?_)|refine callR (r3 _ _ (by simp [get_app])) (fun v1 hv1=>?_)|refine callR (r4 _ _ (by simp [get_app])) (fun v1 hv1=>?_)|refine callR (r5 _ _ _ (by simp [get_app]) (by simp [get_app])) (fun v1 hv1=>?_)|refine callR (r6 _ _ _ (by simp [get_app]) (by simp [get_app])) (fun v1 hv1=>?_))|simp -implicitDefEqProofs(disch:=first|assumption|omega)[*])
 all_goals first|(exfalso;omega)|exact Ends.eqat rfl (by simp) (by repeat' (first|exact List.prefix_refl _|assumption|refine List.IsPrefix.trans ?_ (by assumption)))|(refine Ends.eqat ?_ ?_ (by repeat' (first|exact List.prefix_refl _|assumption|refine List.IsPrefix.trans ?_ (by assumption)));(simp [*];done);simp;done)
@[simp] def P13:Nat→Plan
 | _=>.nil
theorem iwrite_p {ver ep:Int} {p:Prog} {c:Cor} (hp:mayP p=true) (hb:BigC c) (hv:ver=3) (hs:shapeK ep p c=true):PureC Tryz.prog 14 [.agg [.int .i64 ver,.int .i64 ep,row p.funcs,.int .i64 p.mutexes,row p.conds,row p.semas,row p.chans,row p.choices,.int .i64 p.threads,.int .i64 c.now,row c.threads,row c.owners,row c.counts,row c.bufs,row c.lockq,row c.waitq,row c.downq,row c.sendq,row c.recvq]] (.tup [row (fileB 3 (sectsB ep p c)),.int .i64 0]):=by
 subst hv
 obtain⟨hc,he⟩:=shapeK_r (mayP_iff hp) hs
 have h1:=ishape_p (ver:=3) (e:=ep) hp hb
 rw [shapeI_eq,hs] at h1
 have h2:=isections_p (ver:=3) hp hc.w he.2 hc.now.2
 have h3:=swrite_p (ver:=3) (l:=sectsB ep p c) (by simp [mayS,sectsB,oddS];have:=sectsB_le (ep:=ep) (p:=p) hc.w he.2 hc.now.2 (by have:=writeP_le hp;omega);simp [sectsB] at this;omega) (sectsB_le hc.w he.2 hc.now.2 (by have:=writeP_le hp;omega))
 generalize fileB 3 (sectsB ep p c)=F at *
 generalize sectsB ep p c=S at *
 refine .of fun s v=>?_
 refine ac0 Tryz.func14 Tryz.ntmps14 ?_
 have hrs:Tryz.f14.results = #[.tmp 2,.tmp 3]:=rfl
 repeat' (first|(with_reducible first|refine uk ?_|refine wk ?_ ?_<;>intro _|refine callC h1 (fun v1 hv1=>?_)|refine callC h2 (fun v2 hv2=>?_)|refine callC h3 (fun v3 hv3=>?_))|simp -implicitDefEqProofs(disch:=first|assumption|omega)[*])
 all_goals exact Ends.eqat rfl (by simp) (hv1.trans (hv2.trans hv3))
theorem size_big0 {c:Cor} (h:SizeC c 0):BigC c:=by
 have q:∀ {L:List (List Int)},SizeL L 0→BigR L:=fun {L} h=>⟨by have:=h.1;omega,fun l hl=>by have:=h.2 l hl;omega⟩
 exact⟨⟨by have:=h.thr;omega,fun t ht=>by have:=h.th t ht;exact⟨by have:=this.1;omega,by have:=this.2.1;omega,fun f hf=>by have:=this.2.2 f hf;omega⟩⟩,by have:=h.owners;omega,by have:=h.counts;omega,q h.bufs,q h.lockq,q h.waitq,q h.downq,q h.sendq,q h.recvq⟩
theorem lives17_p:PureC Tryz.prog 13 [] (.bool true):=by
 refine .of fun s v=>?_
 have hmk:PureC Tryz.prog 10 [.agg [.nils,.int .i64 0,.nils,.nils,.nils,.nils,.int .i64 0],.nils,.int .i64 0] (.agg (.int .i64 3 :: .int .i64 (around 0 1000) :: ((good ⟨[],0,[],[],[],[],0⟩).lv++(playC (good ⟨[],0,[],[],[],[],0⟩) (coreNew (good ⟨[],0,[],[],[],[],0⟩)) (([]:List Int).take 80)).1.lv))):=fun s v=>
  aCalls_argw (args':=[.agg (Prog.lv ⟨[],0,[],[],[],[],0⟩),row ([]:List Int),.int .i64 0]) ⟨Weak.agg ⟨Weak.nilrow,Weak.refl _,Weak.nilrow,Weak.nilrow,Weak.nilrow,Weak.nilrow,Weak.refl _,trivial⟩,Weak.nilrow,Weak.refl _,trivial⟩
   (make17_p (p:=⟨[],0,[],[],[],[],0⟩) (l:=[]) (e:=0) ⟨⟨by simp,by simp⟩,by constructor<;>simp,⟨by simp,by simp⟩,⟨by simp,by simp⟩,⟨by simp,by simp⟩,⟨by simp,by simp⟩,by constructor<;>simp⟩ ⟨by simp,by simp⟩ (by constructor<;>omega) s v)
 rw [show around 0 1000=0 by decide] at hmk
 have hmy:=good_may ⟨[],0,[],[],[],[],0⟩
 generalize good ⟨[],0,[],[],[],[],0⟩=g at *
 have hp:=mayP_iff hmy
 have hinv:=playC_inv hp (coreNew_inv hp) (([]:List Int).take 80)
 have hnow:(playC g (coreNew g) (([]:List Int).take 80)).1.now=0:=rfl
 generalize (playC g (coreNew g) (([]:List Int).take 80)).1=c at *
 have hsh:=hinv.shape hp (e:=0) (by omega)
 have hb:=size_big0 (hinv.size hp)
 obtain⟨hc,he⟩:=shapeK_r hp hsh
 have h1:=ishape_p (ver:=3) (e:=0) hmy hb
 rw [shapeI_eq,hsh] at h1
 have h2:=isections_p (ver:=3) hmy hc.w he.2 hc.now.2
 have hs:PureE Tryz.prog 15 [row ([0,0]:List UInt8),.imm 1 2 [.int .u8 0,.int .u8 0] .full] (.bool true):=fun s v=>
  aCalls_argw (args':=[row ([0,0]:List UInt8),row ([0,0]:List UInt8)]) ⟨Weak.refl _,Weak.row (l:=([0,0]:List UInt8)) (Weaks.refl _) rfl,trivial⟩ (by have h:=same1_p (a:=([0,0]:List UInt8)) (b:=[0,0]) (by simp) s v;simpa using h)
 have e00:shortB 0++shortB c.now=[0,0]:=by rw [hnow];simp [shortB,shortN]
 obtain⟨T,hT⟩:∃ T,sectsB 0 g c=⟨1,shortB 0++shortB c.now⟩ :: T:=⟨_,rfl⟩
 rw [e00] at hT
 have hl6:(sectsB 0 g c).length=6:=rfl
 have hx:(nth (sectsB 0 g c) 0).body=[0,0]:=by rw [hT];rfl
 clear hinv hsh hb hc he hT e00 hmy hp hnow
 have h1':=h1
 simp only [Prog.lv,Cor.lv,List.cons_append,List.nil_append] at hmk
 generalize sectsB 0 g c=S at *
 refine ac0 Tryz.func13 Tryz.ntmps13 ?_
 have hrs:Tryz.f13.results = #[.tmp 0]:=rfl
 repeat' (first|(with_reducible first|refine uk ?_|refine wk ?_ ?_<;>intro _|refine And.intro ?_ ?_|refine callC hmk (fun v1 hv1=>?_)|refine callC h2 (fun v2 hv2=>?_)|refine callC h1 (fun v3 hv3=>?_)|refine callE hs ?_)|simp -implicitDefEqProofs(disch:=first|assumption|omega)[*])
 all_goals first|exact Ends.eqat rfl (by simp) (hv1.trans (hv2.trans hv3))
@[simp] def P3:Nat→Plan
 | 8=>(.qs [0,1,2,3,4,5,6,7,8,10,11] (.w 9 [11,10] (.w 12 [] (.qs [13,14,15] (.w 16 [] (.qs [17,18] .nil))))))
 | _=>.nil
set_option maxHeartbeats 4000000 in
theorem lawApart_p {p:Prog} {l:List Int} {what at_ n:Int} (h:OkProg p) (hl:OkRow I64 l) (h1:I64 what) (h2:I64 at_):PureC Tryz.prog 3 [.agg p.lv,row l,.int .i64 what,.int .i64 at_,.int .i64 n] (.bool true):=by
 have hmk:=make17_p h hl (e:=5) (by constructor<;>omega)
 rw [show around 5 1000=5 by decide] at hmk
 have hmy:=good_may p
 have hp:=mayP_iff hmy
 generalize good p=g at *
 have hmay:=may_good hp hmy
 have hinv:=playC_inv hp (coreNew_inv hp) (l.take 80)
 generalize (playC g (coreNew g) (l.take 80)).1=c0 at *
 have hs0:=hinv.size hp
 have hsh0:=hinv.shape hp (e:=5) (by omega)
 clear hinv
 have ht1:=turn_p (x:=⟨3,5,g,c0⟩) (n:=n) hs0 (by omega) h1 h2
 have hg1:(turnC ⟨3,5,g,c0⟩ what at_ n).p=g:=rfl
 have hs1:SizeC (turnC ⟨3,5,g,c0⟩ what at_ n).c 1:=turn_size hs0 _ _ _
 generalize turnC ⟨3,5,g,c0⟩ what at_ n=Y at *
 obtain⟨vy,ey,g',cy⟩:=Y
 obtain rfl:g=g':=hg1.symm
 have hb0:=size_big0 hs0
 have hby:=size_big hs1.up
 simp only at hby
 have hlv:=lives17_p
 have hshp:=shape_p (ver:=vy) (e:=ey) hp hmay hby
 have hw0:=iwrite_p hmy hb0 (rfl:(3:Int)=3) hsh0
 clear hg1 hs0 hs1 hmay
 simp only [Img.lv,Prog.lv,Cor.lv,List.cons_append,List.nil_append] at hmk ht1 ⊢
 refine .of fun s v=>?_
 by_cases hsk:shapeK ey g cy=true
 rotate_left
 ·rw [show shapeK ey g cy=false by simpa using hsk] at hshp
  clear hsk hsh0 hw0 hb0 hby
  refine ac0 Tryz.func3 Tryz.ntmps3 ?_
  have hrs:Tryz.f3.results = #[.tmp 10]:=rfl
  repeat' (first|(with_reducible first|refine uk ?_|refine wk ?_ ?_<;>intro _|(refine dr P3 mixed ?_ ?_ ?_;kernel_rfl;kernel_rfl)|refine And.intro ?_ ?_|refine callC hmk (fun v1 hv1=>?_)|refine callC ht1 (fun v2 hv2=>?_)|refine callE hshp ?_|refine callC hlv (fun w1 hw1=>?_))|simp -implicitDefEqProofs(disch:=first|assumption|omega)[*])
  all_goals exact Ends.eqat rfl (by simp) (hv1.trans (hv2.trans hw1))
 rw [hsk] at hshp
 by_cases hv:vy=3
 rotate_left
 ·clear hsk hsh0 hw0 hb0 hby
  refine ac0 Tryz.func3 Tryz.ntmps3 ?_
  have hrs:Tryz.f3.results = #[.tmp 10]:=rfl
  repeat' (first|(with_reducible first|refine uk ?_|refine wk ?_ ?_<;>intro _|(refine dr P3 mixed ?_ ?_ ?_;kernel_rfl;kernel_rfl)|refine And.intro ?_ ?_|refine callC hmk (fun v1 hv1=>?_)|refine callC ht1 (fun v2 hv2=>?_)|refine callE hshp ?_|refine callC hlv (fun w1 hw1=>?_))|simp -implicitDefEqProofs(disch:=first|assumption|omega)[*])
  all_goals exact Ends.eqat rfl (by simp) (hv1.trans (hv2.trans hw1))
 subst hv
 have hwy:=iwrite_p hmy hby (rfl:(3:Int)=3) hsk
 have hwl:=writeP_le hmy
 have hiff:=img_file hmy (by omega) hsh0 hsk
 have hfl:(fileB 3 (sectsB 5 g c0)).length≤9223372036854775807:=by
  have q1:∀ x∈sectsB 5 g c0,x.body.length≤500000:=by
   obtain⟨hc,he⟩:=shapeK_r hp hsh0
   exact sectsB_le hc.w he.2 hc.now.2 (by omega)
  have q2:=flat_le (f:=fun s:Sec=>sealB s.body) (m:=500004) (l:=sectsB 5 g c0) fun x hx=>by have:=q1 x hx;rw [sealB_len];omega
  have q3:=flat_le (f:=secH) (m:=10) (l:=sectsB 5 g c0) fun x hx=>by have:=q1 x hx;have:=shortB_le (n:=(x.body.length:Int)) (by omega);simp only [secH,List.length_cons];omega
  have q4:(sectsB 5 g c0).length=6:=rfl
  have q5:=shortB_le (n:=((sectsB 5 g c0).length:Int)) (by omega)
  unfold fileB headB
  rw [sealB_len]
  simp only [List.length_append,List.length_cons,List.length_nil]
  omega
 have hsm:=same1_p (a:=fileB 3 (sectsB 5 g c0)) (b:=fileB 3 (sectsB ey g cy)) hfl
 have hs17:=rsame17_p (p:=g) (q:=g) (c:=c0) (d:=cy) (v1:=3) (e1:=5) (v2:=3) (e2:=ey) (ok_of_may hmy) hb0
 have hdd:decide (fileB 3 (sectsB 5 g c0)=fileB 3 (sectsB ey g cy))=decide ((⟨3,5,g,c0⟩:Img)=⟨3,ey,g,cy⟩):=by rw [decide_eq_decide];exact hiff
 rw [hdd] at hsm
 clear hdd hiff hfl hsk hsh0 hb0 hby hwl
 generalize decide ((⟨3,5,g,c0⟩:Img)=⟨3,ey,g,cy⟩)=b at *
 generalize fileB 3 (sectsB 5 g c0)=F0 at *
 generalize fileB 3 (sectsB ey g cy)=F1 at *
 refine ac0 Tryz.func3 Tryz.ntmps3 ?_
 have hrs:Tryz.f3.results = #[.tmp 10]:=rfl
 repeat' (first|(with_reducible first|refine uk ?_|refine wk ?_ ?_<;>intro _|(refine dr P3 mixed ?_ ?_ ?_;kernel_rfl;kernel_rfl)|refine And.intro ?_ ?_|refine callC hmk (fun v1 hv1=>?_)|refine callC ht1 (fun v2 hv2=>?_)|refine callE hshp ?_|refine callC hw0 (fun v3 hv3=>?_)|refine callC hwy (fun v4 hv4=>?_)|refine callE hsm ?_|refine callE hs17 ?_|refine callC hlv (fun w1 hw1=>?_))|simp -implicitDefEqProofs(disch:=first|assumption|omega)[*])
 all_goals exact Ends.eqat (by simp [*]) (by simp) (hv1.trans (hv2.trans (hv3.trans (hv4.trans hw1))))
end Go.Hb
end
