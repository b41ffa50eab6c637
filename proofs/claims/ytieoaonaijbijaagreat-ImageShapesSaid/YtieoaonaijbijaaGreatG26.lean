/-
  A layer for reasoning about the program's calls, and contracts of its functions. CONDITIONS: none; each theorem bears its own.
-/
import Derived.Test.YtieoaonaijbijaaGreatG25
import Derived.Test.YtieoaonaijbijaaGreatG09
import Derived.Test.YtieoaonaijbijaaGreatG17
import Derived.Test.YtieoaonaijbijaaGreatG12
set_option linter.unusedVariables false
set_option linter.unusedSimpArgs false
section
namespace Go.Hb
open Go Go.Proofs Go.RowKit
set_option maxRecDepth 100000
set_option maxHeartbeats 800000
attribute [-simp] aC aL xq yp zE aIf yr zR aLen zt ya zQ zP lBr aq yP aev zk zw zF zI LV.cells LV.cellsOk getElem?_pos getElem?_neg
theorem yZ {L:List (List Int)}(hb:L.length≤10000000∧∀ l∈L,l.length≤10000000):zG Tryz.prog 108 [row L] (row L):=fun s v=>by
 refine zS (zj (wp hb.1 hb.2) ?_)
 rintro x s' v' ⟨J,d,cs,rfl,hR,hd,hd2,hG⟩
 exact⟨J,row L,rfl,hR.deep (by omega) hG.weak.deep,rfl,rfl,hG.pre⟩
theorem XS {c:Cor}(hb:CorB c)(hthr:∀ t∈c.threads,ThrB t)(h0:c.threads≠[]){s:List AObj}{v:List Nat} : zp Tryz.prog 34 [.agg [.int .i64 c.now,row c.threads,row c.owners,row c.counts,row c.bufs,row c.lockq,row c.waitq,row c.downq,row c.sendq,row c.recvq]] s v (CloR c s v):=by
 have hl:=hb.threads
 have hb1:=yZ hb.bufs.big
 have hb2:=yZ hb.lockq.big
 have hb3:=yZ hb.waitq.big
 have hb4:=yZ hb.downq.big
 have hb5:=yZ hb.sendq.big
 have hb6:=yZ hb.recvq.big
 refine ac1 Tryz.func34 Tryz.ntmps34 ?_
 have hrs:Tryz.f34.results = #[.cell 2 29]:=rfl
 repeat' (first|(with_reducible first|refine uk ?_|refine wk ?_ ?_<;>intro _)|simp -implicitDefEqProofs(disch:=first|assumption|omega)[*])
 refine zC (β:=List Nat × List AObj × Nat × LV) true c.threads.length (fun k q=>v <+: q.1∧RowR (s++(AObj.cells [.int .i64 c.now,row c.threads,row c.owners,row c.counts,row c.bufs,row c.lockq,row c.waitq,row c.downq,row c.sendq,row c.recvq] :: AObj.cells [.int .i64 0,.nils,.nils,.nils,.nils,.nils,.nils,.nils,.nils,.nils] :: q.2.1)) 5 k (zd (c.threads.take k)) q.2.2.2 (s.length+(q.2.2.1+2))∧(k≠0→q.2.2.1<q.2.1.length)) (fun k q=>[(3,q.2.2.2),(4,.int .i64 k),(7,.any),(8,.any),(9,.any),(10,.any),(11,.any),(14,.any),(15,.any),(16,.any),(17,.any),(18,.any),(19,.any),(20,.any),(21,.any),(22,.any),(12,.any),(13,.any)]) (fun _ q=>s++(AObj.cells [.int .i64 c.now,row c.threads,row c.owners,row c.counts,row c.bufs,row c.lockq,row c.waitq,row c.downq,row c.sendq,row c.recvq] :: AObj.cells [.int .i64 0,.nils,.nils,.nils,.nils,.nils,.nils,.nils,.nils,.nils] :: q.2.1)) (fun _ q=>q.1) ?_ ?_
 ·exact⟨(v,[],0,.nils),⟨List.prefix_refl _,.inl ⟨rfl,rfl,rfl⟩,by simp⟩,fz0,rfl,rfl⟩
 rintro k ⟨v1,J,d,x⟩ hk ⟨hv1,hR,hd⟩
 simp only at hv1 hR hd
 have hxc:=hR.cells
 by_cases hlt:k<c.threads.length
 ·have hx:=zB (l:=c.threads) (i:=(k:Int)) (by omega) (by omega)
  rw[Int.toNat_natCast] at hx
  have htk:zd (c.threads.take (k+1))=zd (c.threads.take k)++(nth c.threads k).lv:=by rw[za hlt];simp[zd,Enc.enc]
  have hcl:=QZ (st:=(nth c.threads k).state) (on:=(nth c.threads k).on) (fr:=(nth c.threads k).frames) (sk:=(nth c.threads k).stack) (co:=(nth c.threads k).code) (hthr _ (zm hlt))
  obtain⟨J2,ha,hR2,hJ2⟩:=zgC (P:=Tryz.prog) (t:=27) (t2:=27) (by_:=72) (by kernel_rfl) (by omega) hR hd (ds:=(nth c.threads k).lv) rfl (by omega)
  have ha':=ha (.ref 5 (s.length+(J.length+2)) 0 1 true) (by simp[zQ,Thr.lv])
  clear ha
  simp only[Thr.lv] at ha'
  have hlt':(k:Int)<c.threads.length:=by omega
  repeat' (first|(with_reducible first|refine uk ?_|refine wk ?_ ?_<;>intro _|refine zg hcl (fun v2 hv2=>?_))|simp -implicitDefEqProofs(disch:=first|assumption|omega)[*])
  rw[← htk] at hR2
  exact⟨hlt,(v2,J2,J.length+1,_),⟨hv1.trans hv2,hR2,fun _=>by show J.length+1<J2.length;omega⟩,fz,by simp,rfl⟩
 ·have:k=c.threads.length:=by omega
  subst this
  rw[List.take_of_length_le (Nat.le_refl _)] at hR
  obtain⟨xO,JO,haO,hxO,hO⟩:=QN (P:=Tryz.prog) (t:=23) (t2:=23) (by kernel_rfl) (l:=c.owners) (by have:=hb.owners;omega) s J (AObj.cells [.int .i64 c.now,x,row c.owners,row c.counts,row c.bufs,row c.lockq,row c.waitq,row c.downq,row c.sendq,row c.recvq]) (AObj.cells [.int .i64 0,.nils,.nils,.nils,.nils,.nils,.nils,.nils,.nils,.nils])
  obtain⟨xC,JC,haC,hxC,hC⟩:=QN (P:=Tryz.prog) (t:=23) (t2:=23) (by kernel_rfl) (l:=c.counts) (by have:=hb.counts;omega) s (J++JO) (AObj.cells [.int .i64 c.now,x,xO,row c.counts,row c.bufs,row c.lockq,row c.waitq,row c.downq,row c.sendq,row c.recvq]) (AObj.cells [.int .i64 0,.nils,.nils,.nils,.nils,.nils,.nils,.nils,.nils,.nils])
  simp only[List.append_assoc] at haC
  have hn0:c.threads.length≠0:=fun e=>h0 (List.length_eq_zero_iff.1 e)
  have hd':=hd hn0
  obtain⟨_,hrx,rfl,hJ,_⟩:=hR.resolve_left fun h=>hn0 h.1
  rw[ze] at hJ
  repeat' (first|(with_reducible first|refine uk ?_|refine wk ?_ ?_<;>intro _|refine zg hb1 (fun v2 hv2=>?_)|refine zg hb2 (fun v3 hv3=>?_)|refine zg hb3 (fun v4 hv4=>?_)|refine zg hb4 (fun v5 hv5=>?_)|refine zg hb5 (fun v6 hv6=>?_)|refine zg hb6 (fun v7 hv7=>?_))|simp -implicitDefEqProofs(disch:=first|assumption|omega)[*])
  refine⟨_ :: _ :: (J++(JO++JC)),d+2,xO,xC,J.length+2,(J++JO).length+2,rfl,?_,hO _ _ JC,?_,by omega,⟨by simp;omega,fun h0=>by have hl:=(hO (AObj.cells [.int .i64 0,.nils,.nils,.nils,.nils,.nils,.nils,.nils,.nils,.nils]) (AObj.cells [.int .i64 0,.nils,.nils,.nils,.nils,.nils,.nils,.nils,.nils,.nils]) []).lt h0;simp at hl;rw[List.length_append];omega⟩,by first|exact hv1|exact hv1.trans (hv2.trans (hv3.trans (hv4.trans (hv5.trans (hv6.trans hv7))))),rfl⟩
  ·show (J++(JO++JC))[d]? = _
   rw[List.getElem?_append_left hd'];exact hJ
  ·have:=hC (AObj.cells [.int .i64 c.now,.ref 5 (s.length+(d+2)) 0 c.threads.length false,xO,xC,row c.bufs,row c.lockq,row c.waitq,row c.downq,row c.sendq,row c.recvq]) (AObj.cells [.int .i64 c.now,.ref 5 (s.length+(d+2)) 0 c.threads.length false,xO,xC,row c.bufs,row c.lockq,row c.waitq,row c.downq,row c.sendq,row c.recvq]) []
   simpa using this
theorem zbO {p:Prog}{l:List Int}{e:Int}(h:Qj p)(hl:wB I64 l)(he:I64 e):zG Tryz.prog 10 [.agg p.lv,row l,.int .i64 e] (.agg (.int .i64 3 :: .int .i64 (zA e 1000) :: ((good p).lv++(xG (good p) (ye (good p)) (l.take 80)).1.lv))):=by
 have hg:=ziW h
 have hp:=uK (YN p)
 generalize good p=g at *
 have hll:l.length≤9223372036854775807:=by have:=hl.2;omega
 have hnw:=zjR hp
 have hpl:=zku hp (QB hp) (l:=l) (most:=80) hll hl.1 (by omega) (by omega)
 rw[show (80:Int).toNat=80 from rfl] at hpl
 have har:=yw (n:=e) (m:=1000) he (by omega)
 generalize (xG g (ye g) (l.take 80)).2=ev at *
 generalize (xG g (ye g) (l.take 80)).1=y at *
 generalize ye g=n at *
 refine .of fun s v=>?_
 simp only[Prog.lv,Cor.lv] at hg hnw hpl ⊢
 refine ac0 Tryz.func10 Tryz.ntmps10 ?_
 have hrs:Tryz.f10.results = #[.cell 6 31]:=rfl
 repeat' (first|(with_reducible first|refine uk ?_|refine wk ?_ ?_<;>intro _|(refine dr P10 mixed ?_ ?_ ?_;kernel_rfl;kernel_rfl)|refine And.intro ?_ ?_|refine zg hg (fun v1 hv1=>?_)|refine zg hnw (fun v2 hv2=>?_)|refine zg hpl (fun v3 hv3=>?_)|refine zc har ?_)|simp -implicitDefEqProofs(disch:=first|assumption|omega)[*])
 all_goals exact Ends.eqat rfl (by simp) (hv1.trans (hv2.trans hv3))
@[simp] def P142:Nat→Plan
 | 6=>(.qs [0,1,2,3,4,5,6,7,8] .nil)
 | _=>.nil
@[simp] def P119:Nat→Plan
 | 6=>(.qs [0,1,2,3,4,5,6,7,8] .nil)
 | _=>.nil
@[simp] def P141:Nat→Plan
 | 6=>(.qs [0,1,2,3,4,5,6,7,8] .nil)
 | _=>.nil
@[simp] def P120:Nat→Plan
 | 6=>(.qs [0,1,2,3,4,5,6,7] (.w 8 [] (.qs [9] .nil)))
 | _=>.nil
theorem ziF {x y:Ins}(h:x≠y):¬ (x.op=y.op∧x.a=y.a):=fun ⟨h1,h2⟩=>h (by cases x;cases y;simp_all)
theorem vd {a b:List Int}(ha:a.length≤9223372036854775807):zM Tryz.prog 142 [row a,row b] (.bool (decide (a=b))):=by
 refine .of fun s v=>?_
 refine ac0 Tryz.func142 Tryz.ntmps142 ?_
 have hrs:Tryz.f142.results = #[.tmp 4]:=rfl
 by_cases hl:a.length=b.length
 ·repeat' (first|(with_reducible first|refine uk ?_|refine wk ?_ ?_<;>intro _|(refine dr P142 mixed ?_ ?_ ?_;kernel_rfl;kernel_rfl))|simp -implicitDefEqProofs(disch:=first|assumption|omega)[*])
  refine zC (β:=Unit) false a.length (fun k _=>a.take k=b.take k) (fun k _=>[(13,.int .i64 k),(14,.any),(15,.any),(5,.any),(16,.any),(17,.any),(18,.any),(19,.any),(20,.any),(21,.any),(22,.any),(23,.any),(24,.any),(4,.any),(25,.any)]) (fun _ _=>s) (fun _ _=>v) ?_ ?_
  ·exact⟨(),by simp,fz0,rfl,rfl⟩
  rintro k _ hk hI
  by_cases hlt:k<a.length
  ·have hlb:k<b.length:=by omega
   by_cases hn:nth a k=nth b k
   ·repeat' (first|(with_reducible first|refine uk ?_|refine wk ?_ ?_<;>intro _|(refine dr P142 mixed ?_ ?_ ?_;kernel_rfl;kernel_rfl))|simp -implicitDefEqProofs(disch:=first|assumption|omega)[*])
    exact⟨hlt,(),by show a.take (k+1)=b.take (k+1);rw[za hlt,za hlb,hI,hn],fz,rfl,rfl⟩
   ·have hd:a≠b:=by rintro rfl;exact hn rfl
    repeat' (first|(with_reducible first|refine uk ?_|refine wk ?_ ?_<;>intro _|(refine dr P142 mixed ?_ ?_ ?_;kernel_rfl;kernel_rfl))|simp -implicitDefEqProofs(disch:=first|assumption|omega)[*])
    all_goals exact zn.eq (by simp[hd]) (by simp)
  ·have:k=a.length:=by omega
   subst this
   have hd:a=b:=by rw[List.take_of_length_le (Nat.le_refl _),List.take_of_length_le (by omega)] at hI;exact hI
   repeat' (first|(with_reducible first|refine uk ?_|refine wk ?_ ?_<;>intro _|(refine dr P142 mixed ?_ ?_ ?_;kernel_rfl;kernel_rfl))|simp -implicitDefEqProofs(disch:=first|assumption|omega)[*])
   all_goals exact zn.eq (by simp[hd]) (by simp)
 ·have hd:a≠b:=by rintro rfl;exact hl rfl
  have hl':(a.length:Int)≠b.length:=by omega
  repeat' (first|(with_reducible first|refine uk ?_|refine wk ?_ ?_<;>intro _|(refine dr P142 mixed ?_ ?_ ?_;kernel_rfl;kernel_rfl))|simp -implicitDefEqProofs(disch:=first|assumption|omega)[*])
  all_goals exact zn.eq (by simp[hd]) (by simp)
theorem wH {a b:List Int}(ha:a.length≤9223372036854775807):zM Tryz.prog 119 [row a,row b] (.bool (decide (a=b))):=by
 refine .of fun s v=>?_
 refine ac0 Tryz.func119 Tryz.ntmps119 ?_
 have hrs:Tryz.f119.results = #[.tmp 4]:=rfl
 by_cases hl:a.length=b.length
 ·repeat' (first|(with_reducible first|refine uk ?_|refine wk ?_ ?_<;>intro _|(refine dr P119 mixed ?_ ?_ ?_;kernel_rfl;kernel_rfl))|simp -implicitDefEqProofs(disch:=first|assumption|omega)[*])
  refine zC (β:=Unit) false a.length (fun k _=>a.take k=b.take k) (fun k _=>[(5,.int .i64 k),(11,.any),(12,.any),(13,.any),(14,.any),(17,.any),(18,.any),(19,.any),(20,.any),(21,.any),(22,.any),(23,.any),(24,.any),(25,.any),(4,.any),(15,.any),(16,.any)]) (fun _ _=>s) (fun _ _=>v) ?_ ?_
  ·exact⟨(),by simp,fz0,rfl,rfl⟩
  rintro k _ hk hI
  by_cases hlt:k<a.length
  ·have hlb:k<b.length:=by omega
   by_cases hn:nth a k=nth b k
   ·repeat' (first|(with_reducible first|refine uk ?_|refine wk ?_ ?_<;>intro _|(refine dr P119 mixed ?_ ?_ ?_;kernel_rfl;kernel_rfl))|simp -implicitDefEqProofs(disch:=first|assumption|omega)[*])
    exact⟨hlt,(),by show a.take (k+1)=b.take (k+1);rw[za hlt,za hlb,hI,hn],fz,rfl,rfl⟩
   ·have hd:a≠b:=by rintro rfl;exact hn rfl
    repeat' (first|(with_reducible first|refine uk ?_|refine wk ?_ ?_<;>intro _|(refine dr P119 mixed ?_ ?_ ?_;kernel_rfl;kernel_rfl))|simp -implicitDefEqProofs(disch:=first|assumption|omega)[*])
    all_goals exact zn.eq (by simp[hd]) (by simp)
  ·have:k=a.length:=by omega
   subst this
   have hd:a=b:=by rw[List.take_of_length_le (Nat.le_refl _),List.take_of_length_le (by omega)] at hI;exact hI
   repeat' (first|(with_reducible first|refine uk ?_|refine wk ?_ ?_<;>intro _|(refine dr P119 mixed ?_ ?_ ?_;kernel_rfl;kernel_rfl))|simp -implicitDefEqProofs(disch:=first|assumption|omega)[*])
   all_goals exact zn.eq (by simp[hd]) (by simp)
 ·have hd:a≠b:=by rintro rfl;exact hl rfl
  have hl':(a.length:Int)≠b.length:=by omega
  repeat' (first|(with_reducible first|refine uk ?_|refine wk ?_ ?_<;>intro _|(refine dr P119 mixed ?_ ?_ ?_;kernel_rfl;kernel_rfl))|simp -implicitDefEqProofs(disch:=first|assumption|omega)[*])
  all_goals exact zn.eq (by simp[hd]) (by simp)
theorem zcP {a b:List Ins}(ha:a.length≤9223372036854775807):zM Tryz.prog 141 [row a,row b] (.bool (decide (a=b))):=by
 refine .of fun s v=>?_
 refine ac0 Tryz.func141 Tryz.ntmps141 ?_
 have hrs:Tryz.f141.results = #[.tmp 4]:=rfl
 by_cases hl:a.length=b.length
 ·repeat' (first|(with_reducible first|refine uk ?_|refine wk ?_ ?_<;>intro _|(refine dr P141 mixed ?_ ?_ ?_;kernel_rfl;kernel_rfl))|simp -implicitDefEqProofs(disch:=first|assumption|omega)[*])
  refine zC (β:=Unit) false a.length (fun k _=>a.take k=b.take k) (fun k _=>[(13,.int .i64 k),(14,.any),(15,.any),(5,.any),(16,.any),(17,.any),(18,.any),(19,.any),(20,.any),(21,.any),(22,.any),(23,.any),(24,.any),(4,.any),(25,.any)]) (fun _ _=>s) (fun _ _=>v) ?_ ?_
  ·exact⟨(),by simp,fz0,rfl,rfl⟩
  rintro k _ hk hI
  by_cases hlt:k<a.length
  ·have hlb:k<b.length:=by omega
   by_cases hn:nth a k=nth b k
   ·repeat' (first|(with_reducible first|refine uk ?_|refine wk ?_ ?_<;>intro _|(refine dr P141 mixed ?_ ?_ ?_;kernel_rfl;kernel_rfl))|simp -implicitDefEqProofs(disch:=first|assumption|omega)[*])
    exact⟨hlt,(),by show a.take (k+1)=b.take (k+1);rw[za hlt,za hlb,hI,hn],fz,rfl,rfl⟩
   ·have hq:=ziF hn
    have hd:a≠b:=by rintro rfl;exact hn rfl
    repeat' (first|(with_reducible first|refine uk ?_|refine wk ?_ ?_<;>intro _|(refine dr P141 mixed ?_ ?_ ?_;kernel_rfl;kernel_rfl))|simp -implicitDefEqProofs(disch:=first|assumption|omega)[*])
    all_goals exact zn.eq (by simp[hd]) (by simp)
  ·have:k=a.length:=by omega
   subst this
   have hd:a=b:=by rw[List.take_of_length_le (Nat.le_refl _),List.take_of_length_le (by omega)] at hI;exact hI
   repeat' (first|(with_reducible first|refine uk ?_|refine wk ?_ ?_<;>intro _|(refine dr P141 mixed ?_ ?_ ?_;kernel_rfl;kernel_rfl))|simp -implicitDefEqProofs(disch:=first|assumption|omega)[*])
   all_goals exact zn.eq (by simp[hd]) (by simp)
 ·have hd:a≠b:=by rintro rfl;exact hl rfl
  have hl':(a.length:Int)≠b.length:=by omega
  repeat' (first|(with_reducible first|refine uk ?_|refine wk ?_ ?_<;>intro _|(refine dr P141 mixed ?_ ?_ ?_;kernel_rfl;kernel_rfl))|simp -implicitDefEqProofs(disch:=first|assumption|omega)[*])
  all_goals exact zn.eq (by simp[hd]) (by simp)
theorem zcb {a b:List (List Int)}(ha:a.length≤9223372036854775807)(hr:∀ k<a.length,(nth a k).length≤9223372036854775807):zM Tryz.prog 120 [row a,row b] (.bool (decide (a=b))):=by
 refine .of fun s v=>?_
 refine ac0 Tryz.func120 Tryz.ntmps120 ?_
 have hrs:Tryz.f120.results = #[.tmp 4]:=rfl
 by_cases hl:a.length=b.length
 ·repeat' (first|(with_reducible first|refine uk ?_|refine wk ?_ ?_<;>intro _|(refine dr P120 mixed ?_ ?_ ?_;kernel_rfl;kernel_rfl)|refine zc (by assumption) ?_)|simp -implicitDefEqProofs(disch:=first|assumption|omega)[*])
  refine zC (β:=Unit) false a.length (fun k _=>a.take k=b.take k) (fun k _=>[(5,.int .i64 k),(11,.any),(12,.any),(13,.any),(14,.any),(17,.any),(18,.any),(19,.any),(20,.any),(21,.any),(22,.any),(23,.any),(24,.any),(25,.any),(26,.any),(4,.any),(15,.any),(16,.any)]) (fun _ _=>s) (fun _ _=>v) ?_ ?_
  ·exact⟨(),by simp,fz0,rfl,rfl⟩
  rintro k _ hk hI
  by_cases hlt:k<a.length
  ·have hlb:k<b.length:=by omega
   by_cases hn:nth a k=nth b k
   ·have hc:=wH (a:=nth b k) (b:=nth b k) (by rw[← hn];exact hr k hlt)
    simp only[decide_true] at hc
    repeat' (first|(with_reducible first|refine uk ?_|refine wk ?_ ?_<;>intro _|(refine dr P120 mixed ?_ ?_ ?_;kernel_rfl;kernel_rfl)|refine zc (by assumption) ?_)|simp -implicitDefEqProofs(disch:=first|assumption|omega)[*])
    exact⟨hlt,(),by show a.take (k+1)=b.take (k+1);rw[za hlt,za hlb,hI,hn],fz,rfl,rfl⟩
   ·have hc:=wH (a:=nth a k) (b:=nth b k) (hr k hlt)
    simp only[hn,decide_false] at hc
    have hd:a≠b:=by rintro rfl;exact hn rfl
    repeat' (first|(with_reducible first|refine uk ?_|refine wk ?_ ?_<;>intro _|(refine dr P120 mixed ?_ ?_ ?_;kernel_rfl;kernel_rfl)|refine zc (by assumption) ?_)|simp -implicitDefEqProofs(disch:=first|assumption|omega)[*])
    all_goals exact zn.eq (by simp[hd]) (by simp)
  ·have:k=a.length:=by omega
   subst this
   have hd:a=b:=by rw[List.take_of_length_le (Nat.le_refl _),List.take_of_length_le (by omega)] at hI;exact hI
   repeat' (first|(with_reducible first|refine uk ?_|refine wk ?_ ?_<;>intro _|(refine dr P120 mixed ?_ ?_ ?_;kernel_rfl;kernel_rfl)|refine zc (by assumption) ?_)|simp -implicitDefEqProofs(disch:=first|assumption|omega)[*])
   all_goals exact zn.eq (by simp[hd]) (by simp)
 ·have hd:a≠b:=by rintro rfl;exact hl rfl
  have hl':(a.length:Int)≠b.length:=by omega
  repeat' (first|(with_reducible first|refine uk ?_|refine wk ?_ ?_<;>intro _|(refine dr P120 mixed ?_ ?_ ?_;kernel_rfl;kernel_rfl)|refine zc (by assumption) ?_)|simp -implicitDefEqProofs(disch:=first|assumption|omega)[*])
  all_goals exact zn.eq (by simp[hd]) (by simp)
@[simp] def P41:Nat→Plan
 | 13=>(.qs [0,1,2,3,4,5,6,7,8,9,10] .nil)
 | _=>.nil
theorem zib {a b:List (List Int)}(ha:a.length≤9223372036854775807)(hr:∀ k<a.length,(nth a k).length≤9223372036854775807) :
  zM Tryz.prog 143 [row a,row b,.fn (.func 142) [] []] (.bool (decide (a=b))):=by
 refine .of fun s v=>?_
 refine ac0 Tryz.func143 Tryz.ntmps143 ?_
 have hrs:Tryz.f143.results = #[.tmp 6]:=rfl
 by_cases hl:a.length=b.length
 ·repeat' (first|(with_reducible first|refine uk ?_|refine wk ?_ ?_<;>intro _)|simp -implicitDefEqProofs(disch:=first|assumption|omega)[*])
  refine zC (β:=Unit) false a.length (fun k _=>a.take k=b.take k) (fun k _=>[(17,.int .i64 k),(18,.any),(19,.any),(20,.any),(21,.any),(7,.any),(8,.any),(22,.any),(23,.any),(24,.any),(25,.any),(9,.any),(26,.any),(27,.any),(28,.any),(29,.any),(30,.any),(6,.any),(31,.any)]) (fun _ _=>s) (fun _ _=>v) ?_ ?_
  ·exact⟨(),by simp,fz0,rfl,rfl⟩
  rintro k _ hk hI
  by_cases hlt:k<a.length
  ·have hlb:k<b.length:=by omega
   have hc:=vd (a:=nth a k) (b:=nth b k) (hr k hlt)
   by_cases hn:nth a k=nth b k
   ·simp only[hn,decide_true] at hc
    repeat' (first|(with_reducible first|refine uk ?_|refine wk ?_ ?_<;>intro _|refine zc hc ?_)|simp -implicitDefEqProofs(disch:=first|assumption|omega)[*])
    exact⟨hlt,(),by show a.take (k+1)=b.take (k+1);rw[za hlt,za hlb,hI,hn],fz,rfl,rfl⟩
   ·have hd:a≠b:=by rintro rfl;exact hn rfl
    simp only[hn,decide_false] at hc
    repeat' (first|(with_reducible first|refine uk ?_|refine wk ?_ ?_<;>intro _|refine zc hc ?_)|simp -implicitDefEqProofs(disch:=first|assumption|omega)[*])
    exact zn.eq (by simp[hd]) (by simp)
  ·have:k=a.length:=by omega
   subst this
   have hd:a=b:=by rw[List.take_of_length_le (Nat.le_refl _),List.take_of_length_le (by omega)] at hI;exact hI
   repeat' (first|(with_reducible first|refine uk ?_|refine wk ?_ ?_<;>intro _)|simp -implicitDefEqProofs(disch:=first|assumption|omega)[*])
   exact zn.eq (by simp[hd]) (by simp)
 ·have hd:a≠b:=by rintro rfl;exact hl rfl
  have hl':(a.length:Int)≠b.length:=by omega
  repeat' (first|(with_reducible first|refine uk ?_|refine wk ?_ ?_<;>intro _)|simp -implicitDefEqProofs(disch:=first|assumption|omega)[*])
  exact zn.eq (by simp[hd]) (by simp)
theorem zhd {l l':Int}{c c':List Ins}(hc:c.length≤9223372036854775807):zM Tryz.prog 140 [.agg [.int .i64 l,row c],.agg [.int .i64 l',row c']] (.bool (decide ((⟨l,c⟩:Fn_)=⟨l',c'⟩))):=by
 refine .of fun s v=>?_
 have he:=zcP (a:=c) (b:=c') hc
 refine ac0 Tryz.func140 Tryz.ntmps140 ?_
 have hrs:Tryz.f140.results = #[.tmp 4]:=rfl
 repeat' (first|(with_reducible first|refine uk ?_|refine wk ?_ ?_<;>intro _|refine zc he ?_)|simp -implicitDefEqProofs(disch:=first|assumption|omega)[*])
 all_goals (first|(exfalso;omega)|((try subst_vars);(first|refine zn.eq ?_ (by simp)|refine zn.eqat ?_ (by simp));(first|with_reducible rfl|(simp[*,Fn_.mk.injEq];done)|(simp[*,Fn_.mk.injEq];omega)|(simp only[LV.bool.injEq];rw[Bool.eq_iff_iff];simp[*,Fn_.mk.injEq];done)|(simp only[LV.bool.injEq];rw[Bool.eq_iff_iff];simp[*,Fn_.mk.injEq];omega)|(simp only[LV.bool.injEq];rw[Bool.eq_iff_iff];simp (disch:=omega) only[if_pos,if_neg,if_true,if_false, *,Fn_.mk.injEq];simp<;>omega)|(simp only[LV.bool.injEq,Bool.and_eq_false_imp,Bool.and_eq_true,decide_eq_true_eq];intros;exfalso;omega)|(simp only[LV.bool.injEq,Bool.and_eq_false_imp,Bool.and_eq_true,decide_eq_true_eq];intros;simp_all;done))))
theorem zkS {a b:List Fn_}(ha:a.length≤9223372036854775807)(hr:∀ k<a.length,(nth a k).code.length≤9223372036854775807) :
  zM Tryz.prog 139 [row a,row b,.fn (.func 140) [] []] (.bool (decide (a=b))):=by
 refine .of fun s v=>?_
 refine ac0 Tryz.func139 Tryz.ntmps139 ?_
 have hrs:Tryz.f139.results = #[.tmp 6]:=rfl
 by_cases hl:a.length=b.length
 ·repeat' (first|(with_reducible first|refine uk ?_|refine wk ?_ ?_<;>intro _)|simp -implicitDefEqProofs(disch:=first|assumption|omega)[*])
  refine zC (β:=List AObj) false a.length (fun k _=>a.take k=b.take k) (fun k _=>[(17,.int .i64 k),(18,.any),(19,.any),(20,.any),(21,.any),(8,.any),(7,.any),(22,.any),(23,.any),(24,.any),(25,.any),(9,.any),(26,.any),(27,.any),(28,.any),(29,.any),(30,.any),(6,.any),(31,.any)]) (fun _ J=>s++J) (fun _ _=>v) ?_ ?_
  ·exact⟨[],by simp,fz0,by simp,rfl⟩
  rintro k J hk hI
  by_cases hlt:k<a.length
  ·have hlb:k<b.length:=by omega
   have hc:zM Tryz.prog 140 [.agg [.int .i64 (nth a k).locals,row (nth a k).code],.agg [.int .i64 (nth b k).locals,row (nth b k).code]] (.bool (decide (nth a k=nth b k))):=zhd (hr k hlt)
   by_cases hn:nth a k=nth b k
   ·simp only[hn,decide_true] at hc
    repeat' (first|(with_reducible first|refine uk ?_|refine wk ?_ ?_<;>intro _|refine zc hc ?_)|simp -implicitDefEqProofs(disch:=first|assumption|omega)[*])
    exact⟨hlt,_,by show a.take (k+1)=b.take (k+1);rw[za hlt,za hlb,hI,hn],fz,rfl,rfl⟩
   ·have hd:a≠b:=by rintro rfl;exact hn rfl
    simp only[hn,decide_false] at hc
    repeat' (first|(with_reducible first|refine uk ?_|refine wk ?_ ?_<;>intro _|refine zc hc ?_)|simp -implicitDefEqProofs(disch:=first|assumption|omega)[*])
    exact zn.eqat (by simp[hd]) (by simp)
  ·have:k=a.length:=by omega
   subst this
   have hd:a=b:=by rw[List.take_of_length_le (Nat.le_refl _),List.take_of_length_le (by omega)] at hI;exact hI
   repeat' (first|(with_reducible first|refine uk ?_|refine wk ?_ ?_<;>intro _)|simp -implicitDefEqProofs(disch:=first|assumption|omega)[*])
   exact zn.eqat (by simp[hd]) (by simp)
 ·have hd:a≠b:=by rintro rfl;exact hl rfl
  have hl':(a.length:Int)≠b.length:=by omega
  repeat' (first|(with_reducible first|refine uk ?_|refine wk ?_ ?_<;>intro _)|simp -implicitDefEqProofs(disch:=first|assumption|omega)[*])
  exact zn.eq (by simp[hd]) (by simp)
instance:DecidableEq Prog:=fun a b=>decidable_of_iff (a.funcs=b.funcs∧a.mutexes=b.mutexes∧a.conds=b.conds∧a.semas=b.semas∧a.chans=b.chans∧a.choices=b.choices∧a.threads=b.threads)
 ⟨fun ⟨h1,h2,h3,h4,h5,h6,h7⟩=>by cases a;cases b;simp_all,fun h=>by subst h;exact⟨rfl,rfl,rfl,rfl,rfl,rfl,rfl⟩⟩
theorem zjA {fs fs':List Fn_}{mu th mu' th':Int}{co se ch co' se' ch':List Int}{cho cho':List (List Int)}(hp:Qj ⟨fs,mu,co,se,ch,cho,th⟩) :
  zM Tryz.prog 52 [.agg [row fs,.int .i64 mu,row co,row se,row ch,row cho,.int .i64 th],.agg [row fs',.int .i64 mu',row co',row se',row ch',row cho',.int .i64 th']] (.bool (decide ((⟨fs,mu,co,se,ch,cho,th⟩:Prog)=⟨fs',mu',co',se',ch',cho',th'⟩))):=by
 obtain⟨⟨h1,k1⟩,h2,⟨h3,k3⟩,⟨h4,k4⟩,⟨h5,k5⟩,⟨h6,k6⟩,h7⟩:=hp
 simp only at *
 refine .of fun s v=>?_
 have e1:=zkS (a:=fs) (b:=fs') (by omega) (fun k hk=>by have:=(h1 (nth fs k) (by rw[zK hk];exact List.getElem_mem hk)).2.2;omega)
 have e2:=vd (a:=co) (b:=co') (by omega)
 have e3:=vd (a:=se) (b:=se') (by omega)
 have e4:=vd (a:=ch) (b:=ch') (by omega)
 have e5:=zib (a:=cho) (b:=cho') (by omega) (fun k hk=>by have:=(h6 (nth cho k) (by rw[zK hk];exact List.getElem_mem hk)).2;omega)
 clear h1 h2 h3 h4 h5 h6 h7 k1 k3 k4 k5 k6
 refine ac0 Tryz.func52 Tryz.ntmps52 ?_
 have hrs:Tryz.f52.results = #[.tmp 4]:=rfl
 repeat' (first|(with_reducible first|refine uk ?_|refine wk ?_ ?_<;>intro _|refine zc e1 ?_|refine zc e2 ?_|refine zc e3 ?_|refine zc e4 ?_|refine zc e5 ?_)|simp -implicitDefEqProofs(disch:=first|assumption|omega)[*])
 all_goals (first|(exfalso;omega)|((try subst_vars);(first|refine zn.eq ?_ (by simp)|refine zn.eqat ?_ (by simp));(first|with_reducible rfl|(simp[*,Prog.mk.injEq];done)|(simp[*,Prog.mk.injEq];omega)|(simp only[LV.bool.injEq];rw[Bool.eq_iff_iff];simp[*,Prog.mk.injEq];done)|(simp only[LV.bool.injEq];rw[Bool.eq_iff_iff];simp[*,Prog.mk.injEq];omega)|(simp only[LV.bool.injEq];rw[Bool.eq_iff_iff];simp (disch:=omega) only[if_pos,if_neg,if_true,if_false, *,Prog.mk.injEq];simp<;>omega)|(simp only[LV.bool.injEq,Bool.and_eq_false_imp,Bool.and_eq_true,decide_eq_true_eq];intros;exfalso;omega)|(simp only[LV.bool.injEq,Bool.and_eq_false_imp,Bool.and_eq_true,decide_eq_true_eq];intros;simp_all;done))))
set_option maxHeartbeats 8000000 in
theorem ziO {fs fs':List Fn_}{mu th mu' th':Int}{co se ch co' se' ch':List Int}{cho cho':List (List Int)}(hp:Qj ⟨fs,mu,co,se,ch,cho,th⟩) :
  zM Tryz.prog 41 [.agg [row fs,.int .i64 mu,row co,row se,row ch,row cho,.int .i64 th],.agg [row fs',.int .i64 mu',row co',row se',row ch',row cho',.int .i64 th']] (.bool (decide ((⟨fs,mu,co,se,ch,cho,th⟩:Prog)=⟨fs',mu',co',se',ch',cho',th'⟩))):=by
 obtain⟨⟨h1,k1⟩,h2,⟨h3,k3⟩,⟨h4,k4⟩,⟨h5,k5⟩,⟨h6,k6⟩,h7⟩:=hp
 simp only at *
 refine .of fun s v=>?_
 have e2:=wH (a:=co) (b:=co') (by omega)
 have e3:=wH (a:=se) (b:=se') (by omega)
 have e4:=wH (a:=ch) (b:=ch') (by omega)
 have e5:=zcb (a:=cho) (b:=cho') (by omega) (fun k hk=>by have:=(h6 (nth cho k) (by rw[zK hk];exact List.getElem_mem hk)).2;omega)
 have hr:∀ k<fs.length,(nth fs k).code.length≤9223372036854775807:=fun k hk=>by have:=(h1 (nth fs k) (by rw[zK hk];exact List.getElem_mem hk)).2.2;omega
 clear h1 h2 h3 h4 h5 h6 h7 k3 k4 k5 k6
 by_cases hl:fs.length=fs'.length
 ·refine ac0 Tryz.func41 Tryz.ntmps41 ?_
  have hrs:Tryz.f41.results = #[.tmp 4]:=rfl
  repeat' (first|(with_reducible first|refine uk ?_|refine wk ?_ ?_<;>intro _|(refine dr P41 mixed ?_ ?_ ?_;kernel_rfl;kernel_rfl))|simp -implicitDefEqProofs(disch:=first|assumption|omega)[*])
  refine zC (β:=List AObj) false fs.length (fun k _=>fs.take k=fs'.take k) (fun k _=>[(5,.int .i64 k),(16,.any),(17,.any),(18,.any),(19,.any),(20,.any),(23,.any),(24,.any),(25,.any),(26,.any),(27,.any),(6,.any),(28,.any),(29,.any),(30,.any),(31,.any),(32,.any),(7,.any),(33,.any),(34,.any),(35,.any),(36,.any),(37,.any),(38,.any),(39,.any),(40,.any),(41,.any),(42,.any),(43,.any),(44,.any),(45,.any),(46,.any),(4,.any),(8,.any),(47,.any),(48,.any),(49,.any),(50,.any),(51,.any),(54,.any),(55,.any),(56,.any),(57,.any),(58,.any),(59,.any),(60,.any),(61,.any),(62,.any),(63,.any),(64,.any),(52,.any),(53,.any),(21,.any),(22,.any)]) (fun _ J=>s++(.cells [row fs,.int .i64 mu,row co,row se,row ch,row cho,.int .i64 th] :: .cells [row fs',.int .i64 mu',row co',row se',row ch',row cho',.int .i64 th'] :: J)) (fun _ _=>v) ?_ ?_
  ·exact⟨[],by simp,fz0,by simp,rfl⟩
  rintro k J hk hI
  by_cases hlt:k<fs.length
  ·have hlb:k<fs'.length:=by omega
   have hrk:=hr k hlt
   by_cases hn:nth fs k=nth fs' k
   ·rw[hn] at hrk
    repeat' (first|(with_reducible first|refine uk ?_|refine wk ?_ ?_<;>intro _|(refine dr P41 mixed ?_ ?_ ?_;kernel_rfl;kernel_rfl))|simp -implicitDefEqProofs(disch:=first|assumption|omega)[*])
    refine yW (β:=Unit) false (nth fs' k).code.length (fun _ _=>True) (fun j _=>[(8,.int .i64 j),(47,.any),(48,.any),(49,.any),(50,.any),(51,.any),(54,.any),(55,.any),(56,.any),(57,.any),(58,.any),(59,.any),(60,.any),(61,.any),(62,.any),(63,.any),(64,.any),(4,.any),(52,.any),(53,.any)]) (fun _ _=>s++(.cells [row fs,.int .i64 mu,row co,row se,row ch,row cho,.int .i64 th] :: .cells [row fs',.int .i64 mu',row co',row se',row ch',row cho',.int .i64 th'] :: (J++[.cells [.int .i64 (nth fs' k).locals,row (nth fs' k).code],.cells [.int .i64 (nth fs' k).locals,row (nth fs' k).code]]))) (fun _ _=>v) ?_ ?_
    ·exact⟨(),trivial,fz0,by simp,rfl⟩
    rintro j _ hj _
    by_cases hjl:j<(nth fs' k).code.length
    ·repeat' (first|(with_reducible first|refine uk ?_|refine wk ?_ ?_<;>intro _|(refine dr P41 mixed ?_ ?_ ?_;kernel_rfl;kernel_rfl))|simp -implicitDefEqProofs(disch:=first|assumption|omega)[*])
     exact⟨hjl,(),trivial,fz,rfl,rfl⟩
    ·have:j=(nth fs' k).code.length:=by omega
     subst this
     repeat' (first|(with_reducible first|refine uk ?_|refine wk ?_ ?_<;>intro _|(refine dr P41 mixed ?_ ?_ ?_;kernel_rfl;kernel_rfl))|simp -implicitDefEqProofs(disch:=first|assumption|omega)[*])
     exact⟨hlt,_,by show fs.take (k+1)=fs'.take (k+1);rw[za hlt,za hlb,hI,hn],fz,rfl,rfl⟩
   ·have hd:fs≠fs':=by rintro rfl;exact hn rfl
    by_cases ha:(nth fs k).locals=(nth fs' k).locals
    ·by_cases hb:(nth fs k).code.length=(nth fs' k).code.length
     ·repeat' (first|(with_reducible first|refine uk ?_|refine wk ?_ ?_<;>intro _|(refine dr P41 mixed ?_ ?_ ?_;kernel_rfl;kernel_rfl))|simp -implicitDefEqProofs(disch:=first|assumption|omega)[*])
      refine yW (β:=Unit) false (nth fs k).code.length (fun j _=>(nth fs k).code.take j=(nth fs' k).code.take j) (fun j _=>[(8,.int .i64 j),(47,.any),(48,.any),(49,.any),(50,.any),(51,.any),(54,.any),(55,.any),(56,.any),(57,.any),(58,.any),(59,.any),(60,.any),(61,.any),(62,.any),(63,.any),(64,.any),(4,.any),(52,.any),(53,.any)]) (fun _ _=>s++(.cells [row fs,.int .i64 mu,row co,row se,row ch,row cho,.int .i64 th] :: .cells [row fs',.int .i64 mu',row co',row se',row ch',row cho',.int .i64 th'] :: (J++[.cells [.int .i64 (nth fs' k).locals,row (nth fs k).code],.cells [.int .i64 (nth fs' k).locals,row (nth fs' k).code]]))) (fun _ _=>v) ?_ ?_
      ·exact⟨(),by simp,fz0,by simp[ha],rfl⟩
      rintro j _ hj hJ
      by_cases hjl:j<(nth fs k).code.length
      ·have hjb:j<(nth fs' k).code.length:=by omega
       by_cases hq:nth (nth fs k).code j=nth (nth fs' k).code j
       ·repeat' (first|(with_reducible first|refine uk ?_|refine wk ?_ ?_<;>intro _|(refine dr P41 mixed ?_ ?_ ?_;kernel_rfl;kernel_rfl))|simp -implicitDefEqProofs(disch:=first|assumption|omega)[*])
        exact⟨hjl,(),by show (nth fs k).code.take (j+1)=(nth fs' k).code.take (j+1);rw[za hjl,za hjb,hJ,hq],fz,rfl,rfl⟩
       ·have hq2:=ziF hq
        repeat' (first|(with_reducible first|refine uk ?_|refine wk ?_ ?_<;>intro _|(refine dr P41 mixed ?_ ?_ ?_;kernel_rfl;kernel_rfl))|simp -implicitDefEqProofs(disch:=first|assumption|omega)[*])
        all_goals exact zn.eqat (by simp[hd]) (by simp)
      ·exfalso
       have:j=(nth fs k).code.length:=by omega
       subst this
       rw[List.take_of_length_le (Nat.le_refl _),List.take_of_length_le (by omega)] at hJ
       apply hn
       generalize nth fs k=x at *
       generalize nth fs' k=y at *
       cases x;cases y;simp_all
     ·have hb':((nth fs k).code.length:Int)≠(nth fs' k).code.length:=by omega
      repeat' (first|(with_reducible first|refine uk ?_|refine wk ?_ ?_<;>intro _|(refine dr P41 mixed ?_ ?_ ?_;kernel_rfl;kernel_rfl))|simp -implicitDefEqProofs(disch:=first|assumption|omega)[*])
      all_goals exact zn.eqat (by simp[hd]) (by simp)
    ·repeat' (first|(with_reducible first|refine uk ?_|refine wk ?_ ?_<;>intro _|(refine dr P41 mixed ?_ ?_ ?_;kernel_rfl;kernel_rfl))|simp -implicitDefEqProofs(disch:=first|assumption|omega)[*])
     all_goals exact zn.eqat (by simp[hd]) (by simp)
  ·have:k=fs.length:=by omega
   subst this
   have hd:fs=fs':=by rw[List.take_of_length_le (Nat.le_refl _),List.take_of_length_le (by omega)] at hI;exact hI
   repeat' (first|(with_reducible first|refine uk ?_|refine wk ?_ ?_<;>intro _|(refine dr P41 mixed ?_ ?_ ?_;kernel_rfl;kernel_rfl)|refine zc e2 ?_|refine zc e3 ?_|refine zc e4 ?_|refine zc e5 ?_)|simp -implicitDefEqProofs(disch:=first|assumption|omega)[*])
   all_goals (first|(exfalso;omega)|((try subst_vars);(first|refine zn.eq ?_ (by simp)|refine zn.eqat ?_ (by simp));(first|with_reducible rfl|(simp[*,Prog.mk.injEq];done)|(simp[*,Prog.mk.injEq];omega)|(simp only[LV.bool.injEq];rw[Bool.eq_iff_iff];simp[*,Prog.mk.injEq];done)|(simp only[LV.bool.injEq];rw[Bool.eq_iff_iff];simp[*,Prog.mk.injEq];omega)|(simp only[LV.bool.injEq];rw[Bool.eq_iff_iff];simp (disch:=omega) only[if_pos,if_neg,if_true,if_false, *,Prog.mk.injEq];simp<;>omega)|(simp only[LV.bool.injEq,Bool.and_eq_false_imp,Bool.and_eq_true,decide_eq_true_eq];intros;exfalso;omega)|(simp only[LV.bool.injEq,Bool.and_eq_false_imp,Bool.and_eq_true,decide_eq_true_eq];intros;simp_all;done))))
 ·have hd:fs≠fs':=by rintro rfl;exact hl rfl
  have hl':(fs.length:Int)≠fs'.length:=by omega
  refine ac0 Tryz.func41 Tryz.ntmps41 ?_
  have hrs:Tryz.f41.results = #[.tmp 4]:=rfl
  repeat' (first|(with_reducible first|refine uk ?_|refine wk ?_ ?_<;>intro _|(refine dr P41 mixed ?_ ?_ ?_;kernel_rfl;kernel_rfl))|simp -implicitDefEqProofs(disch:=first|assumption|omega)[*])
  all_goals exact zn.eqat (by simp[hd]) (by simp)
end Go.Hb
end
