/-
  A layer for reasoning about the program's calls, and contracts of its functions. CONDITIONS: none; each theorem bears its own.
-/
import Derived.Test.YtieoaonaijbijaaGreatG26
import Derived.Test.YtieoaonaijbijaaGreatG09
set_option linter.unusedVariables false
set_option linter.unusedSimpArgs false
section
namespace Go.Hb
open Go Go.Proofs Go.RowKit
set_option maxRecDepth 100000
set_option maxHeartbeats 800000
attribute [-simp] aC aL xq yp zE aIf yr zR aLen zt ya zQ zP lBr aq yP aev zk zw zF zI LV.cells LV.cellsOk getElem?_pos getElem?_neg
@[simp] def P11:Nat→Plan
 | 17=>(.qs [0,1,2,3,4,5,6,7,8,9,10] (.w 11 [1] (.qs [12,13] (.w 14 [] .nil))))
 | 23=>(.qs [0,1,2,3,4,5,7] (.w 6 [1] (.qs [8] (.w 9 [] .nil))))
 | 26=>(.qs [0,1,2,3,4,5,7] (.w 6 [1] (.qs [8] (.w 9 [] .nil))))
 | _=>.nil
set_option maxHeartbeats 8000000 in
theorem zjl {ver ep:Int}{p:Prog}{c:Cor}{what at_ n w:Int}{k:Nat}(hs:SizeC c k)(hk:k≤2)(h1:I64 what)(h2:I64 at_)(hwe:zA what 16=w)(hw:w=0∨w=1∨w=2∨w=3∨w=6∨w=7∨w=14) :
  zG Tryz.prog 11 [.agg [.int .i64 ver,.int .i64 ep,row p.funcs,.int .i64 p.mutexes,row p.conds,row p.semas,row p.chans,row p.choices,.int .i64 p.threads,.int .i64 c.now,row c.threads,row c.owners,row c.counts,row c.bufs,row c.lockq,row c.waitq,row c.downq,row c.sendq,row c.recvq],.int .i64 what,.int .i64 at_,.int .i64 n] (.agg (Ku ⟨ver,ep,p,c⟩ what at_ n).lv):=by
 have hb:=hs.corB hk
 have hthr:=hs.thrB hk
 have hn:=hs.thr
 have ho:=hs.owners
 have hcn:=hs.counts
 have hne:c.threads≠[]:=fun e=>by rw[e] at hn;simp at hn
 have a16:=yw (n:=what) (m:=16) h1 (by omega)
 unfold Ku
 rw[hwe] at a16
 rw[hwe]
 clear hwe
 have hat:=yl (n:=at_) (m:=(c.threads.length:Int)) (by omega)
 have har:=yw (n:=at_) (m:=(c.threads.length:Int)) h2 (by omega)
 have htt:∀ f,Zo c at_ f = {c with threads:=c.threads.set (zA at_ (c.threads.length:Int)).toNat (f (nth c.threads (zA at_ (c.threads.length:Int)).toNat)) }:=fun _=>rfl
 generalize zA at_ (c.threads.length:Int)=j at *
 obtain⟨i,rfl⟩:∃ i:Nat,j=i:=⟨j.toNat,by omega⟩
 rw[Int.toNat_natCast] at htt
 have hi:i<c.threads.length:=by omega
 intro s v
 refine zS ?_
 refine ac1 Tryz.func11 Tryz.ntmps11 ?_
 have hrs:Tryz.f11.results = #[.cell 8 31]:=rfl
 repeat' (first|(with_reducible first|refine uk ?_|refine wk ?_ ?_<;>intro _|(refine dw P11 mixed ?_ ?_ ?_;kernel_rfl;kernel_rfl)|refine And.intro ?_ ?_)|simp -implicitDefEqProofs(disch:=first|assumption|omega)[*])
 refine zj (XS hb hthr hne) ?_
 intro x1 s1 v1 hc1
 obtain⟨J,d,xO,xC,dO,dC,rfl,hJ,hO,hC,nO,nC,hv1,rfl⟩:=hc1.two
 clear hc1
 have hd:=(List.getElem?_eq_some_iff.1 hJ).1
 have hJX:∀ Y,(J++Y)[d]? = some (.cells (zd c.threads)):=fun Y=>by rw[List.getElem?_append_left hd];exact hJ
 have hJs:∀ Y o,(J++Y).set d o=J.set d o++Y:=fun Y o=>by rw[List.set_append_left _ _ hd]
 have hJl:∀ X x,(J++x :: X)[J.length]? = some x:=fun X x=>by rw[List.getElem?_append_right (by simp)];simp
 have hJm:∀ X x o,(J.set d o++x :: X)[J.length]? = some x:=fun X x o=>by rw[List.getElem?_append_right (by simp)];simp
 have h5:(zd c.threads).length=c.threads.length*5:=by rw[zY];rfl
 have hk1:i*5+1≤(zd c.threads).length:=by omega
 have hk2:i*5+1+1≤(zd c.threads).length:=by omega
 clear h5
 have hki:(i:Int)<c.threads.length:=by omega
 have hkeep:∀ Y,∀ e,e≠d→e<J.length→(J++Y)[e]? = J[e]?:=fun Y e _ he=>List.getElem?_append_left he
 have hkeep2:∀ Y o,∀ e,e≠d→e<J.length→(J.set d o++Y)[e]? = J[e]?:=fun Y o e h he=>by rw[List.getElem?_append_left (by simpa using he),List.getElem?_set_ne (Ne.symm h)]
 have hT0:∀ A B Y,DeepV (s++(A :: B :: (J++Y))) s.length (.ref 5 (s.length+(d+2)) 0 c.threads.length false) (row c.threads):=fun A B Y=>DeepV.ref_row (by omega) (by rw[ze];exact hJX Y) (xe (by decide) hne)
 have hO0:∀ A B Y,DeepV (s++(A :: B :: (J++Y))) s.length xO (row c.owners):=fun A B Y=>(hO.oth2 (hkeep Y) (fun _=>nO)).deep0 (by omega)
 have hC0:∀ A B Y,DeepV (s++(A :: B :: (J++Y))) s.length xC (row c.counts):=fun A B Y=>(hC.oth2 (hkeep Y) (fun _=>nC.1)).deep0 (by omega)
 have hO1:∀ A B Y o,DeepV (s++(A :: B :: (J.set d o++Y))) s.length xO (row c.owners):=fun A B Y o=>(hO.oth2 (hkeep2 Y o) (fun _=>nO)).deep0 (by omega)
 have hC1:∀ A B Y o,DeepV (s++(A :: B :: (J.set d o++Y))) s.length xC (row c.counts):=fun A B Y o=>(hC.oth2 (hkeep2 Y o) (fun _=>nC.1)).deep0 (by omega)
 have hT1:∀ A B Y (l:List Thr),l.length=c.threads.length→DeepV (s++(A :: B :: (J.set d (.cells (zd l))++Y))) s.length (.ref 5 (s.length+(d+2)) 0 c.threads.length false) (row l):=fun A B Y l hl=>by
  have:=DeepV.ref_row (S:=s++(A :: B :: (J.set d (.cells (zd l))++Y))) (n:=s.length) (id:=s.length+(d+2)) (fl:=false) (l:=l) (by omega) (by rw[ze,List.getElem?_append_left (by simpa using hd),List.getElem?_set_self hd]) (xe (by decide) (fun e=>by rw[e] at hl;simp at hl;omega))
  rw[hl] at this;exact this
 rcases hw with rfl | rfl | rfl | rfl | rfl | rfl | rfl
 ·repeat' (first|(with_reducible first|refine uk ?_|refine wk ?_ ?_<;>intro _|(refine dw P11 mixed ?_ ?_ ?_;kernel_rfl;kernel_rfl)|refine And.intro ?_ ?_|refine zc a16 ?_|refine zc har ?_)|simp -implicitDefEqProofs(disch:=first|assumption|omega)[*])
  all_goals exact zW (hT0 _ _ _) (hO0 _ _ _) (hC0 _ _ _) (rowD _) (rowD _) (rowD _) (rowD _) (rowD _) (rowD _)
 ·repeat' (first|(with_reducible first|refine uk ?_|refine wk ?_ ?_<;>intro _|(refine dw P11 mixed ?_ ?_ ?_;kernel_rfl;kernel_rfl)|refine And.intro ?_ ?_|refine zc a16 ?_|refine zc har ?_)|simp -implicitDefEqProofs(disch:=first|assumption|omega)[*])
  all_goals exact zW (c:={c with now:=n }) (hT0 _ _ _) (hO0 _ _ _) (hC0 _ _ _) (rowD _) (rowD _) (rowD _) (rowD _) (rowD _) (rowD _)
 ·repeat' (first|(with_reducible first|refine uk ?_|refine wk ?_ ?_<;>intro _|(refine dw P11 mixed ?_ ?_ ?_;kernel_rfl;kernel_rfl)|refine And.intro ?_ ?_|refine zc a16 ?_|refine zc har ?_)|simp -implicitDefEqProofs(disch:=first|assumption|omega)[*])
  all_goals
   rw[zcs n c.threads hi]
   exact zW (c:=Zo c at_ fun t=>{t with state:=n }) (by rw[htt];exact hT1 _ _ _ _ (by simp)) (hO1 _ _ _ _) (hC1 _ _ _ _) (rowD _) (rowD _) (rowD _) (rowD _) (rowD _) (rowD _)
 ·repeat' (first|(with_reducible first|refine uk ?_|refine wk ?_ ?_<;>intro _|(refine dw P11 mixed ?_ ?_ ?_;kernel_rfl;kernel_rfl)|refine And.intro ?_ ?_|refine zc a16 ?_|refine zc har ?_)|simp -implicitDefEqProofs(disch:=first|assumption|omega)[*])
  all_goals
   rw[zbP n c.threads hi]
   exact zW (c:=Zo c at_ fun t=>{t with on:=n }) (by rw[htt];exact hT1 _ _ _ _ (by simp)) (hO1 _ _ _ _) (hC1 _ _ _ _) (rowD _) (rowD _) (rowD _) (rowD _) (rowD _) (rowD _)
 ·rcases hO with ⟨e0,e1,rfl⟩ | ⟨e0,q2,rfl,q4,q5⟩
  ·have e2:∀ m,c.owners.set m n=c.owners:=fun m=>List.set_eq_of_length_le (by omega)
   have e0':¬ (0:Int)<c.owners.length:=by omega
   repeat' (first|(with_reducible first|refine uk ?_|refine wk ?_ ?_<;>intro _|(refine dw P11 mixed ?_ ?_ ?_;kernel_rfl;kernel_rfl)|refine And.intro ?_ ?_|refine zc a16 ?_|refine zc har ?_)|simp -implicitDefEqProofs(disch:=first|assumption|omega)[*])
   all_goals
    show DeepV _ _ _ (.agg (Img.lv ⟨_,_,_,{c with owners:=c.owners.set _ n }⟩))
    rw[e2]
    exact zW (hT0 _ _ _) (hO0 _ _ _) (hC0 _ _ _) (rowD _) (rowD _) (rowD _) (rowD _) (rowD _) (rowD _)
  ·have am:=yl (n:=at_) (m:=(c.owners.length:Int)) (by omega)
   have a2:=yw (n:=at_) (m:=(c.owners.length:Int)) h2 (by omega)
   have e0':(0:Int)<c.owners.length:=by omega
   have e0'':0<c.owners.length:=by omega
   have htw:zaA c 6 at_ n = {c with owners:=c.owners.set (zA at_ (c.owners.length:Int)).toNat n }:=rfl
   rw[htw]
   clear htw
   generalize zA at_ (c.owners.length:Int)=m at *
   obtain⟨m,rfl⟩:∃ i:Nat,m=i:=⟨m.toNat,by omega⟩
   rw[Int.toNat_natCast]
   have hm:m<c.owners.length:=by omega
   rw[ze] at q4
   have hd2:=(List.getElem?_eq_some_iff.1 q4).1
   have g1:∀ Y,(J++Y)[dO]? = some (.cells (zd c.owners)):=fun Y=>by rw[List.getElem?_append_left hd2];exact q4
   have g2:∀ Y o,(J++Y).set dO o=J.set dO o++Y:=fun Y o=>by rw[List.set_append_left _ _ hd2]
   have g3:∀ X x o,(J.set dO o++x :: X)[J.length]? = some x:=fun X x o=>by rw[List.getElem?_append_right (by simp)];simp
   have g4:m+1≤(zd c.owners).length:=by rw[q5];omega
   have g5:m≤(zd c.owners).length:=by omega
   have g6:(m:Int)<c.owners.length:=by omega
   have g7:m+1≤c.owners.length:=by omega
   have kp:∀ Y o,∀ e,e≠dO→e<J.length→(J.set dO o++Y)[e]? = J[e]?:=fun Y o e h he=>by rw[List.getElem?_append_left (by simpa using he),List.getElem?_set_ne (Ne.symm h)]
   have hT2:∀ A B Y o,DeepV (s++(A :: B :: (J.set dO o++Y))) s.length (.ref 5 (s.length+(d+2)) 0 c.threads.length false) (row c.threads):=fun A B Y o=>DeepV.ref_row (by omega) (by rw[ze,kp Y o d (by have:=nO;have:=nC;omega) hd];exact hJ) (xe (by decide) hne)
   have hX2:∀ A B Y (l:List Int),l.length=c.owners.length→DeepV (s++(A :: B :: (J.set dO (.cells (zd l))++Y))) s.length (.ref 1 (s.length+(dO+2)) 0 c.owners.length false) (row l):=fun A B Y l hl=>by
    have:=DeepV.ref_row (S:=s++(A :: B :: (J.set dO (.cells (zd l))++Y))) (n:=s.length) (id:=s.length+(dO+2)) (fl:=false) (l:=l) (by omega) (by rw[ze,List.getElem?_append_left (by simpa using hd2),List.getElem?_set_self hd2]) (xe (by decide) (fun e=>by rw[e] at hl;simp at hl;omega))
    rw[hl] at this;exact this
   have hY2:∀ A B Y o,DeepV (s++(A :: B :: (J.set dO o++Y))) s.length xC (row c.counts):=fun A B Y o=>(hC.oth2 (kp Y o) (fun _=>Ne.symm (nC.2 e0))).deep0 (by omega)
   clear hJ hJX hJs hJm hT0 hO0 hC0 hO1 hC1 hT1 hkeep hkeep2
   repeat' (first|(with_reducible first|refine uk ?_|refine wk ?_ ?_<;>intro _|(refine dw P11 mixed ?_ ?_ ?_;kernel_rfl;kernel_rfl)|refine And.intro ?_ ?_|refine zc a16 ?_|refine zc har ?_|refine zc a2 ?_)|simp -implicitDefEqProofs(disch:=first|assumption|omega)[*])
   all_goals
    rw[vI]
    exact zW (c:={c with owners:=c.owners.set m n }) (hT2 _ _ _ _) (hX2 _ _ _ _ (by simp)) (hY2 _ _ _ _) (rowD _) (rowD _) (rowD _) (rowD _) (rowD _) (rowD _)
 ·rcases hC with ⟨e0,e1,rfl⟩ | ⟨e0,q2,rfl,q4,q5⟩
  ·have e2:∀ m,c.counts.set m n=c.counts:=fun m=>List.set_eq_of_length_le (by omega)
   have e0':¬ (0:Int)<c.counts.length:=by omega
   repeat' (first|(with_reducible first|refine uk ?_|refine wk ?_ ?_<;>intro _|(refine dw P11 mixed ?_ ?_ ?_;kernel_rfl;kernel_rfl)|refine And.intro ?_ ?_|refine zc a16 ?_|refine zc har ?_)|simp -implicitDefEqProofs(disch:=first|assumption|omega)[*])
   all_goals
    show DeepV _ _ _ (.agg (Img.lv ⟨_,_,_,{c with counts:=c.counts.set _ n }⟩))
    rw[e2]
    exact zW (hT0 _ _ _) (hO0 _ _ _) (hC0 _ _ _) (rowD _) (rowD _) (rowD _) (rowD _) (rowD _) (rowD _)
  ·have am:=yl (n:=at_) (m:=(c.counts.length:Int)) (by omega)
   have a2:=yw (n:=at_) (m:=(c.counts.length:Int)) h2 (by omega)
   have e0':(0:Int)<c.counts.length:=by omega
   have e0'':0<c.counts.length:=by omega
   have htw:zaA c 7 at_ n = {c with counts:=c.counts.set (zA at_ (c.counts.length:Int)).toNat n }:=rfl
   rw[htw]
   clear htw
   generalize zA at_ (c.counts.length:Int)=m at *
   obtain⟨m,rfl⟩:∃ i:Nat,m=i:=⟨m.toNat,by omega⟩
   rw[Int.toNat_natCast]
   have hm:m<c.counts.length:=by omega
   rw[ze] at q4
   have hd2:=(List.getElem?_eq_some_iff.1 q4).1
   have g1:∀ Y,(J++Y)[dC]? = some (.cells (zd c.counts)):=fun Y=>by rw[List.getElem?_append_left hd2];exact q4
   have g2:∀ Y o,(J++Y).set dC o=J.set dC o++Y:=fun Y o=>by rw[List.set_append_left _ _ hd2]
   have g3:∀ X x o,(J.set dC o++x :: X)[J.length]? = some x:=fun X x o=>by rw[List.getElem?_append_right (by simp)];simp
   have g4:m+1≤(zd c.counts).length:=by rw[q5];omega
   have g5:m≤(zd c.counts).length:=by omega
   have g6:(m:Int)<c.counts.length:=by omega
   have g7:m+1≤c.counts.length:=by omega
   have kp:∀ Y o,∀ e,e≠dC→e<J.length→(J.set dC o++Y)[e]? = J[e]?:=fun Y o e h he=>by rw[List.getElem?_append_left (by simpa using he),List.getElem?_set_ne (Ne.symm h)]
   have hT2:∀ A B Y o,DeepV (s++(A :: B :: (J.set dC o++Y))) s.length (.ref 5 (s.length+(d+2)) 0 c.threads.length false) (row c.threads):=fun A B Y o=>DeepV.ref_row (by omega) (by rw[ze,kp Y o d (by have:=nO;have:=nC;omega) hd];exact hJ) (xe (by decide) hne)
   have hX2:∀ A B Y (l:List Int),l.length=c.counts.length→DeepV (s++(A :: B :: (J.set dC (.cells (zd l))++Y))) s.length (.ref 1 (s.length+(dC+2)) 0 c.counts.length false) (row l):=fun A B Y l hl=>by
    have:=DeepV.ref_row (S:=s++(A :: B :: (J.set dC (.cells (zd l))++Y))) (n:=s.length) (id:=s.length+(dC+2)) (fl:=false) (l:=l) (by omega) (by rw[ze,List.getElem?_append_left (by simpa using hd2),List.getElem?_set_self hd2]) (xe (by decide) (fun e=>by rw[e] at hl;simp at hl;omega))
    rw[hl] at this;exact this
   have hY2:∀ A B Y o,DeepV (s++(A :: B :: (J.set dC o++Y))) s.length xO (row c.owners):=fun A B Y o=>(hO.oth2 (kp Y o) (fun h0=>nC.2 h0)).deep0 (by omega)
   clear hJ hJX hJs hJm hT0 hO0 hC0 hO1 hC1 hT1 hkeep hkeep2
   repeat' (first|(with_reducible first|refine uk ?_|refine wk ?_ ?_<;>intro _|(refine dw P11 mixed ?_ ?_ ?_;kernel_rfl;kernel_rfl)|refine And.intro ?_ ?_|refine zc a16 ?_|refine zc har ?_|refine zc a2 ?_)|simp -implicitDefEqProofs(disch:=first|assumption|omega)[*])
   all_goals
    rw[vI]
    exact zW (c:={c with counts:=c.counts.set m n }) (hT2 _ _ _ _) (hY2 _ _ _ _) (hX2 _ _ _ _ (by simp)) (rowD _) (rowD _) (rowD _) (rowD _) (rowD _) (rowD _)
 ·repeat' (first|(with_reducible first|refine uk ?_|refine wk ?_ ?_<;>intro _|(refine dw P11 mixed ?_ ?_ ?_;kernel_rfl;kernel_rfl)|refine And.intro ?_ ?_|refine zc a16 ?_|refine zc har ?_)|simp -implicitDefEqProofs(disch:=first|assumption|omega)[*])
  all_goals exact zW (hT0 _ _ _) (hO0 _ _ _) (hC0 _ _ _) (rowD _) (rowD _) (rowD _) (rowD _) (rowD _) (rowD _)
set_option maxHeartbeats 8000000 in
theorem zkq {ver ep:Int}{p:Prog}{c:Cor}{what at_ n:Int}{k:Nat}(hs:SizeC c k)(hk:k≤2)(h1:I64 what)(h2:I64 at_)(hwe:zA what 16=15) :
  zG Tryz.prog 11 [.agg [.int .i64 ver,.int .i64 ep,row p.funcs,.int .i64 p.mutexes,row p.conds,row p.semas,row p.chans,row p.choices,.int .i64 p.threads,.int .i64 c.now,row c.threads,row c.owners,row c.counts,row c.bufs,row c.lockq,row c.waitq,row c.downq,row c.sendq,row c.recvq],.int .i64 what,.int .i64 at_,.int .i64 n] (.agg (Ku ⟨ver,ep,p,c⟩ what at_ n).lv):=by
 have hb:=hs.corB hk
 have hthr:=hs.thrB hk
 have hn:=hs.thr
 have ho:=hs.owners
 have hcn:=hs.counts
 have hne:c.threads≠[]:=fun e=>by rw[e] at hn;simp at hn
 have a16:=yw (n:=what) (m:=16) h1 (by omega)
 unfold Ku
 rw[hwe] at a16
 rw[hwe]
 clear hwe
 have hat:=yl (n:=at_) (m:=(c.threads.length:Int)) (by omega)
 have har:=yw (n:=at_) (m:=(c.threads.length:Int)) h2 (by omega)
 have htt:∀ f,Zo c at_ f = {c with threads:=c.threads.set (zA at_ (c.threads.length:Int)).toNat (f (nth c.threads (zA at_ (c.threads.length:Int)).toNat)) }:=fun _=>rfl
 generalize zA at_ (c.threads.length:Int)=j at *
 obtain⟨i,rfl⟩:∃ i:Nat,j=i:=⟨j.toNat,by omega⟩
 rw[Int.toNat_natCast] at htt
 have hi:i<c.threads.length:=by omega
 intro s v
 refine zS ?_
 refine ac1 Tryz.func11 Tryz.ntmps11 ?_
 have hrs:Tryz.f11.results = #[.cell 8 31]:=rfl
 repeat' (first|(with_reducible first|refine uk ?_|refine wk ?_ ?_<;>intro _|(refine dw P11 mixed ?_ ?_ ?_;kernel_rfl;kernel_rfl)|refine And.intro ?_ ?_)|simp -implicitDefEqProofs(disch:=first|assumption|omega)[*])
 refine zj (XS hb hthr hne) ?_
 intro x1 s1 v1 hc1
 obtain⟨J,d,xO,xC,dO,dC,rfl,hJ,hO,hC,nO,nC,hv1,rfl⟩:=hc1.two
 clear hc1
 have hd:=(List.getElem?_eq_some_iff.1 hJ).1
 have hJX:∀ Y,(J++Y)[d]? = some (.cells (zd c.threads)):=fun Y=>by rw[List.getElem?_append_left hd];exact hJ
 have hJl:∀ X x,(J++x :: X)[J.length]? = some x:=fun X x=>by rw[List.getElem?_append_right (by simp)];simp
 have hki:(i:Int)<c.threads.length:=by omega
 have hkeep:∀ Y,∀ e,e≠d→e<J.length→(J++Y)[e]? = J[e]?:=fun Y e _ he=>List.getElem?_append_left he
 have hOS:∀ A B Y,RowR (s++(A :: B :: (J++Y))) 1 c.owners.length (zd c.owners) xO (s.length+(dO+2)):=fun A B Y=>hO.oth2 (hkeep Y) (fun _=>nO)
 obtain⟨J',l1,l2,ha⟩:∃ J':List AObj,J'.length=J.length∧(∀ e,(c.owners.length≠0→e≠dO)→J'[e]? = J[e]?)∧∀ A B Y r,zk Tryz.prog 23 23 xO (.imm 1 1 [.int .i64 n] r) (s++(A :: B :: (J++Y)))=some (.ref 1 (s.length+(J.length+Y.length+2)) 0 (c.owners.length+1) false,s++(A :: B :: (J'++(Y++[.cells (zd c.owners++[.int .i64 n])])))):=by
  by_cases e0:c.owners.length=0
  ·refine⟨J,rfl,fun _ _=>rfl,fun A B Y r=>?_⟩
   rw[uF (by_:=8) (by kernel_rfl) (by omega) (by omega) (hOS A B Y) rfl (by omega) r,if_pos e0];simp
  ·refine⟨J.set dO (.cells []),by simp,fun e he=>List.getElem?_set_ne (Ne.symm (he e0)),fun A B Y r=>?_⟩
   have hl:=hO.lt e0
   simp at hl
   rw[uF (by_:=8) (by kernel_rfl) (by omega) (by omega) (hOS A B Y) rfl (by omega) r,if_neg e0,Yp,List.set_append_left _ _ (by omega)];simp
 have ha2:=fun A B x r=>ha A B [x] r
 simp only[List.length_cons,List.length_nil,List.cons_append,List.nil_append,Nat.zero_add] at ha2
 have g1:∀ X x,(J'++x :: X)[J.length]? = some x:=fun X x=>by rw[← l1,List.getElem?_append_right (by simp)];simp
 have hT2:∀ A B Y,DeepV (s++(A :: B :: (J'++Y))) s.length (.ref 5 (s.length+(d+2)) 0 c.threads.length false) (row c.threads):=fun A B Y=>DeepV.ref_row (by omega) (by rw[ze,List.getElem?_append_left (by omega),l2 d (fun _=>Ne.symm nO)];exact hJ) (xe (by decide) hne)
 have hC2:∀ A B Y,DeepV (s++(A :: B :: (J'++Y))) s.length xC (row c.counts):=fun A B Y=>RowR.deep0 (id:=s.length+(dC+2)) (hC.keep fun h0=>by
  have hl:=hC.lt h0
  simp at hl
  rw[ze,ze,List.getElem?_append_left (by omega),l2 dC (fun h=>Ne.symm (nC.2 h))]) (by omega)
 have hO2:∀ A B x,DeepV (s++(A :: B :: (J'++x :: [.cells (zd c.owners++[.int .i64 n])]))) s.length (.ref 1 (s.length+(J.length+1+2)) 0 (c.owners.length+1) false) (row (c.owners++[n])):=fun A B x=>by
  have e:zd (c.owners++[n])=zd c.owners++[.int .i64 n]:=by simp[zd,Enc.enc]
  have:=DeepV.ref_row (S:=s++(A :: B :: (J'++x :: [.cells (zd c.owners++[.int .i64 n])]))) (n:=s.length) (id:=s.length+(J.length+1+2)) (fl:=false) (l:=c.owners++[n]) (by omega) (by rw[ze,List.getElem?_append_right (by omega),l1,e];simp) (by rw[e];simp)
  rw[List.length_append] at this
  exact this
 have htw:zaA c 15 at_ n = {c with owners:=c.owners++[n] }:=rfl
 rw[htw]
 have hOc:=hO.cells
 clear htw hJ hkeep ha l2 hOS
 repeat' (first|(with_reducible first|refine uk ?_|refine wk ?_ ?_<;>intro _|(refine dw P11 mixed ?_ ?_ ?_;kernel_rfl;kernel_rfl)|refine And.intro ?_ ?_|refine zc a16 ?_|refine zc har ?_)|simp -implicitDefEqProofs(disch:=first|assumption|omega)[*])
 all_goals exact zW (c:={c with owners:=c.owners++[n] }) (hT2 _ _ _) (hO2 _ _ _) (hC2 _ _ _) (rowD _) (rowD _) (rowD _) (rowD _) (rowD _) (rowD _)
def CloM (c:Cor)(j:Nat)(s:List AObj)(v:List Nat)(x:LV)(s':List AObj)(v':List Nat):Prop:=∃ K d cs y xT xO xC,s++K=s'∧RowR (s++K) 1 (selL c j).length cs y (s.length+d)∧((selL c j).length≠0→d<K.length)∧ListsG v v' (selL c j) cs∧(Gro v v' c.threads xT∧Gro v v' c.owners xO∧Gro v v' c.counts xC)∧
 x = .agg [.int .i64 c.now,xT,xO,xC,if j=0 then y else row c.bufs,if j=1 then y else row c.lockq,if j=2 then y else row c.waitq,if j=3 then y else row c.downq,if j=4 then y else row c.sendq,if j=5 then y else row c.recvq]
theorem zdL {c:Cor}(hb:CorB c)(hthr:∀ t∈c.threads,ThrB t){j:Nat}(hj:j≤5){s:List AObj}{v:List Nat} : zp Tryz.prog 34 [.agg [.int .i64 c.now,row c.threads,row c.owners,row c.counts,row c.bufs,row c.lockq,row c.waitq,row c.downq,row c.sendq,row c.recvq]] s v (CloL c j s v):=by
 have hl:=hb.threads
 have ho:=hb.owners
 have hc:=hb.counts
 suffices h:zp Tryz.prog 34 [.agg [.int .i64 c.now,row c.threads,row c.owners,row c.counts,row c.bufs,row c.lockq,row c.waitq,row c.downq,row c.sendq,row c.recvq]] s v (CloM c j s v) by
  refine xp (zj h ?_)
  rintro x s' v' ⟨K,d,cs,y,xT,xO,xC,rfl,hR,hd,hG,⟨g1,g2,g3⟩,rfl⟩
  exact⟨selX c j y,_,Weak.agg ⟨Weak.refl _,g1.weak,g2.weak,g3.weak,Weak.refl _,Weak.refl _,Weak.refl _,Weak.refl _,Weak.refl _,Weak.refl _,trivial⟩,wF.refl _,K,d,cs,y,rfl,hR,hd,hG,rfl⟩
 have hb1:=yZ hb.bufs.big
 have hb2:=yZ hb.lockq.big
 have hb3:=yZ hb.waitq.big
 have hb4:=yZ hb.downq.big
 have hb5:=yZ hb.sendq.big
 have hb6:=yZ hb.recvq.big
 have c1:=fun s v=>wp hb.bufs.big.1 hb.bufs.big.2 (s:=s) (v:=v)
 have c2:=fun s v=>wp hb.lockq.big.1 hb.lockq.big.2 (s:=s) (v:=v)
 have c3:=fun s v=>wp hb.waitq.big.1 hb.waitq.big.2 (s:=s) (v:=v)
 have c4:=fun s v=>wp hb.downq.big.1 hb.downq.big.2 (s:=s) (v:=v)
 have c5:=fun s v=>wp hb.sendq.big.1 hb.sendq.big.2 (s:=s) (v:=v)
 have c6:=fun s v=>wp hb.recvq.big.1 hb.recvq.big.2 (s:=s) (v:=v)
 refine ac0 Tryz.func34 Tryz.ntmps34 ?_
 have hrs:Tryz.f34.results = #[.cell 2 29]:=rfl
 repeat' (first|(with_reducible first|refine uk ?_|refine wk ?_ ?_<;>intro _)|simp -implicitDefEqProofs(disch:=first|assumption|omega)[*])
 refine zC (β:=LV × List Nat) false c.threads.length (fun k q=>GroE v q.2 (c.threads.take k) q.1) (fun k q=>[(3,q.1),(4,.int .i64 k),(7,.any),(8,.any),(9,.any),(10,.any),(11,.any),(14,.any),(15,.any),(16,.any),(17,.any),(18,.any),(19,.any),(20,.any),(21,.any),(22,.any),(12,.any),(13,.any)]) (fun _ _=>s++[AObj.cells [.int .i64 c.now,row c.threads,row c.owners,row c.counts,row c.bufs,row c.lockq,row c.waitq,row c.downq,row c.sendq,row c.recvq],AObj.cells [.int .i64 0,.nils,.nils,.nils,.nils,.nils,.nils,.nils,.nils,.nils]]) (fun _ q=>q.2) ?_ ?_
 ·exact⟨(.nils,v),GroE.nil _,fz0,rfl,rfl⟩
 rintro k ⟨x,v1⟩ hk hG
 simp only at hG
 by_cases hlt:k<c.threads.length
 ·have hx:=zB (l:=c.threads) (i:=(k:Int)) (by omega) (by omega)
  rw[Int.toNat_natCast] at hx
  have hcl:=QZ (st:=(nth c.threads k).state) (on:=(nth c.threads k).on) (fr:=(nth c.threads k).frames) (sk:=(nth c.threads k).stack) (co:=(nth c.threads k).code) (hthr _ (zm hlt))
  have hts:=za hlt
  have hlt':(k:Int)<c.threads.length:=by omega
  clear hb1 hb2 hb3 hb4 hb5 hb6 c1 c2 c3 c4 c5 c6
  repeat' (first|(with_reducible first|refine uk ?_|refine wk ?_ ?_<;>intro _|refine zg hcl (fun v2 hv2=>?_))|simp -implicitDefEqProofs(disch:=first|assumption|omega)[*])
  have hG2:GroE v v2 (c.threads.take k) x:=GroC.mono hG hv2
  obtain⟨x2,v3,g2,_,gb⟩:=hG2.push (P:=Tryz.prog) (t:=27) (t2:=27) (sz:=5) (by_:=72) (by kernel_rfl) rfl (by omega) (nth c.threads k) (by simp;omega)
  rw[← hts] at g2
  simp only[zba] at gb
  have hc2:=g2.gro.cells
  repeat' (first|(with_reducible first|refine uk ?_|refine wk ?_ ?_<;>intro _)|simp -implicitDefEqProofs(disch:=first|assumption|omega)[*])
  exact⟨hlt,(x2,v3),g2,fz,rfl,rfl⟩
 ·have hke:k=c.threads.length:=by omega
  subst hke
  rw[List.take_of_length_le (Nat.le_refl _)] at hG
  obtain⟨xO,v2,gO,_,aO⟩:=(Gro.nil v1 (α:=Int)).appr (P:=Tryz.prog) (t:=23) (t2:=23) (by_:=8) (by kernel_rfl) (by omega) c.owners (by simp;omega)
  obtain⟨xC,v3,gC,_,aC⟩:=(Gro.nil v2 (α:=Int)).appr (P:=Tryz.prog) (t:=23) (t2:=23) (by_:=8) (by kernel_rfl) (by omega) c.counts (by simp;omega)
  simp only[List.nil_append] at gO gC
  have p1:v <+: v1:=hG.1
  have p2:v1 <+: v2:=gO.pre
  have p3:v2 <+: v3:=gC.pre
  have T3:Gro v v3 c.threads x:=hG.gro.mono (p2.trans p3)
  have O3:Gro v v3 c.owners xO:=(gO.mono p3).back p1
  have C3:Gro v v3 c.counts xC:=gC.back (p1.trans p2)
  have qT:=T3.cells
  have qO:=O3.cells
  have qC:=C3.cells
  have hjj:j=0∨j=1∨j=2∨j=3∨j=4∨j=5:=by omega
  clear gO gC hG
  rcases hjj with rfl | rfl | rfl | rfl | rfl | rfl
  ·repeat' (first|(with_reducible first|refine uk ?_|refine wk ?_ ?_<;>intro _|refine xg (c1 _ _) (fun y J d cs w0 qc r e f g=>?_)|refine zg hb2 (fun w2 hw2=>?_)|refine zg hb3 (fun w3 hw3=>?_)|refine zg hb4 (fun w4 hw4=>?_)|refine zg hb5 (fun w5 hw5=>?_)|refine zg hb6 (fun w6 hw6=>?_))|simp -implicitDefEqProofs(disch:=first|assumption|omega)[*])
   have r':=r.two
   have p4:=p1.trans (p2.trans p3)
   have p5:=g.pre.trans (hw2.trans (hw3.trans (hw4.trans (hw5.trans (hw6)))))
   exact⟨_ :: _ :: J,d+2,cs,y,x,xO,xC,rfl,r' _ _,(fun h=>by have:=f h;simp;omega),ListsG.back (g.mono (hw2.trans (hw3.trans (hw4.trans (hw5.trans (hw6)))))) p4,⟨T3.mono p5,O3.mono p5,C3.mono p5⟩,rfl⟩
  ·repeat' (first|(with_reducible first|refine uk ?_|refine wk ?_ ?_<;>intro _|refine zg hb1 (fun w1 hw1=>?_)|refine xg (c2 _ _) (fun y J d cs w0 qc r e f g=>?_)|refine zg hb3 (fun w3 hw3=>?_)|refine zg hb4 (fun w4 hw4=>?_)|refine zg hb5 (fun w5 hw5=>?_)|refine zg hb6 (fun w6 hw6=>?_))|simp -implicitDefEqProofs(disch:=first|assumption|omega)[*])
   have r':=r.two
   have p4:=p1.trans (p2.trans (p3.trans hw1))
   have p5:=(hw1).trans (g.pre.trans (hw3.trans (hw4.trans (hw5.trans (hw6)))))
   exact⟨_ :: _ :: J,d+2,cs,y,x,xO,xC,rfl,r' _ _,(fun h=>by have:=f h;simp;omega),ListsG.back (g.mono (hw3.trans (hw4.trans (hw5.trans (hw6))))) p4,⟨T3.mono p5,O3.mono p5,C3.mono p5⟩,rfl⟩
  ·repeat' (first|(with_reducible first|refine uk ?_|refine wk ?_ ?_<;>intro _|refine zg hb1 (fun w1 hw1=>?_)|refine zg hb2 (fun w2 hw2=>?_)|refine xg (c3 _ _) (fun y J d cs w0 qc r e f g=>?_)|refine zg hb4 (fun w4 hw4=>?_)|refine zg hb5 (fun w5 hw5=>?_)|refine zg hb6 (fun w6 hw6=>?_))|simp -implicitDefEqProofs(disch:=first|assumption|omega)[*])
   have r':=r.two
   have p4:=p1.trans (p2.trans (p3.trans (hw1.trans (hw2))))
   have p5:=(hw1.trans (hw2)).trans (g.pre.trans (hw4.trans (hw5.trans (hw6))))
   exact⟨_ :: _ :: J,d+2,cs,y,x,xO,xC,rfl,r' _ _,(fun h=>by have:=f h;simp;omega),ListsG.back (g.mono (hw4.trans (hw5.trans (hw6)))) p4,⟨T3.mono p5,O3.mono p5,C3.mono p5⟩,rfl⟩
  ·repeat' (first|(with_reducible first|refine uk ?_|refine wk ?_ ?_<;>intro _|refine zg hb1 (fun w1 hw1=>?_)|refine zg hb2 (fun w2 hw2=>?_)|refine zg hb3 (fun w3 hw3=>?_)|refine xg (c4 _ _) (fun y J d cs w0 qc r e f g=>?_)|refine zg hb5 (fun w5 hw5=>?_)|refine zg hb6 (fun w6 hw6=>?_))|simp -implicitDefEqProofs(disch:=first|assumption|omega)[*])
   have r':=r.two
   have p4:=p1.trans (p2.trans (p3.trans (hw1.trans (hw2.trans (hw3)))))
   have p5:=(hw1.trans (hw2.trans (hw3))).trans (g.pre.trans (hw5.trans (hw6)))
   exact⟨_ :: _ :: J,d+2,cs,y,x,xO,xC,rfl,r' _ _,(fun h=>by have:=f h;simp;omega),ListsG.back (g.mono (hw5.trans (hw6))) p4,⟨T3.mono p5,O3.mono p5,C3.mono p5⟩,rfl⟩
  ·repeat' (first|(with_reducible first|refine uk ?_|refine wk ?_ ?_<;>intro _|refine zg hb1 (fun w1 hw1=>?_)|refine zg hb2 (fun w2 hw2=>?_)|refine zg hb3 (fun w3 hw3=>?_)|refine zg hb4 (fun w4 hw4=>?_)|refine xg (c5 _ _) (fun y J d cs w0 qc r e f g=>?_)|refine zg hb6 (fun w6 hw6=>?_))|simp -implicitDefEqProofs(disch:=first|assumption|omega)[*])
   have r':=r.two
   have p4:=p1.trans (p2.trans (p3.trans (hw1.trans (hw2.trans (hw3.trans (hw4))))))
   have p5:=(hw1.trans (hw2.trans (hw3.trans (hw4)))).trans (g.pre.trans (hw6))
   exact⟨_ :: _ :: J,d+2,cs,y,x,xO,xC,rfl,r' _ _,(fun h=>by have:=f h;simp;omega),ListsG.back (g.mono (hw6)) p4,⟨T3.mono p5,O3.mono p5,C3.mono p5⟩,rfl⟩
  ·repeat' (first|(with_reducible first|refine uk ?_|refine wk ?_ ?_<;>intro _|refine zg hb1 (fun w1 hw1=>?_)|refine zg hb2 (fun w2 hw2=>?_)|refine zg hb3 (fun w3 hw3=>?_)|refine zg hb4 (fun w4 hw4=>?_)|refine zg hb5 (fun w5 hw5=>?_)|refine xg (c6 _ _) (fun y J d cs w0 qc r e f g=>?_))|simp -implicitDefEqProofs(disch:=first|assumption|omega)[*])
   have r':=r.two
   have p4:=p1.trans (p2.trans (p3.trans (hw1.trans (hw2.trans (hw3.trans (hw4.trans (hw5)))))))
   have p5:=(hw1.trans (hw2.trans (hw3.trans (hw4.trans (hw5))))).trans (g.pre)
   exact⟨_ :: _ :: J,d+2,cs,y,x,xO,xC,rfl,r' _ _,(fun h=>by have:=f h;simp;omega),ListsG.back (g) p4,⟨T3.mono p5,O3.mono p5,C3.mono p5⟩,rfl⟩
end Go.Hb
end
