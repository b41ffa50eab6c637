/-
  A layer for reasoning about the program's calls, and contracts of its functions. CONDITIONS: none; each theorem bears its own.
-/
import Derived.Test.YtieoaonaijbijaaGreatG28
import Derived.Test.YtieoaonaijbijaaGreatG26
import Derived.Test.YtieoaonaijbijaaGreatG09
import Derived.Test.YtieoaonaijbijaaGreatG13
import Derived.Test.YtieoaonaijbijaaGreatG18
set_option linter.unusedVariables false
set_option linter.unusedSimpArgs false
section
namespace Go.Hb
open Go Go.Proofs Go.RowKit
set_option maxRecDepth 100000
set_option maxHeartbeats 800000
attribute [-simp] aC aL xq yp zE aIf yr zR aLen zt ya zQ zP lBr aq yP aev zk zw zF zI LV.cells LV.cellsOk getElem?_pos getElem?_neg
set_option maxHeartbeats 8000000 in
theorem Kr {ver ep:Int}{p:Prog}{c:Cor}{what at_ n w:Int}{k j:Nat}(hs:SizeC c k)(hk:k≤2)(h1:I64 what)(h2:I64 at_)(hwe:zA what 16=w)(hw:(w=13∧j=0)∨(w=8∧j=1)∨(w=9∧j=2)∨(w=10∧j=3)∨(w=11∧j=4)∨(w=12∧j=5)) :
  zG Tryz.prog 11 [.agg [.int .i64 ver,.int .i64 ep,row p.funcs,.int .i64 p.mutexes,row p.conds,row p.semas,row p.chans,row p.choices,.int .i64 p.threads,.int .i64 c.now,row c.threads,row c.owners,row c.counts,row c.bufs,row c.lockq,row c.waitq,row c.downq,row c.sendq,row c.recvq],.int .i64 what,.int .i64 at_,.int .i64 n] (.agg (Ku ⟨ver,ep,p,c⟩ what at_ n).lv):=by
 have hb:=hs.corB hk
 have hthr:=hs.thrB hk
 have hn:=hs.thr
 have hsz:=hs.sel j
 have a16:=yw (n:=what) (m:=16) h1 (by omega)
 have htw:Ku ⟨ver,ep,p,c⟩ what at_ n=⟨ver,ep,p,putL c j (uw (selL c j) at_ (if w=11 then [n,n] else [n]))⟩:=by
  unfold Ku
  rw[hwe]
  rcases hw with ⟨rfl,rfl⟩ | ⟨rfl,rfl⟩ | ⟨rfl,rfl⟩ | ⟨rfl,rfl⟩ | ⟨rfl,rfl⟩ | ⟨rfl,rfl⟩<;>rfl
 rw[htw]
 rw[hwe] at a16
 clear hwe htw
 have hat:=yl (n:=at_) (m:=(c.threads.length:Int)) (by omega)
 have har:=yw (n:=at_) (m:=(c.threads.length:Int)) h2 (by omega)
 generalize zA at_ (c.threads.length:Int)=i at *
 have hj5:j≤5:=by omega
 intro s v
 refine zS ?_
 refine ac0 Tryz.func11 Tryz.ntmps11 ?_
 have hrs:Tryz.f11.results = #[.cell 8 31]:=rfl
 repeat' (first|(with_reducible first|refine uk ?_|refine wk ?_ ?_<;>intro _|(refine dr P11 mixed ?_ ?_ ?_;kernel_rfl;kernel_rfl)|refine And.intro ?_ ?_)|simp -implicitDefEqProofs(disch:=first|assumption|omega)[*])
 refine zj (zdL hb hthr hj5) ?_
 intro x1 s1 v1 hc1
 obtain⟨K,d,cs,y,rfl,hR,hd,hG,rfl⟩:=hc1.two
 clear hc1 hb hthr hs hn
 have hpre:=hG.pre
 have hcl:=hR.cells
 rcases hR with ⟨e0,e1,rfl⟩ | ⟨e0,q2,rfl,q4,q5⟩
 ·have hL:selL c j=[]:=List.eq_nil_of_length_eq_zero e0
  have e2:uw (selL c j) at_ (if w=11 then [n,n] else [n])=[]:=by rw[hL];rfl
  rw[e2]
  have hX:∀ A B Y,DeepV (s++(A :: B :: (K++Y))) s.length .nils (row ([]:List (List Int))):=fun A B Y=>.weak _ _ _ (.keep _ rfl) Weak.nilrow
  clear hL e2 e0 hd hG hsz e1
  rcases hw with ⟨rfl,rfl⟩ | ⟨rfl,rfl⟩ | ⟨rfl,rfl⟩ | ⟨rfl,rfl⟩ | ⟨rfl,rfl⟩ | ⟨rfl,rfl⟩
  all_goals
   unfold selX
   repeat' (first|(with_reducible first|refine uk ?_|refine wk ?_ ?_<;>intro _|(refine dr P11 mixed ?_ ?_ ?_;kernel_rfl;kernel_rfl)|refine And.intro ?_ ?_|refine zc a16 ?_|refine zc har ?_)|simp -implicitDefEqProofs(disch:=first|assumption|omega)[*])
   all_goals first|exact zW (c:=putL c 0 _) (rowD _) (rowD _) (rowD _) (hX _ _ _) (rowD _) (rowD _) (rowD _) (rowD _) (rowD _)|exact zW (c:=putL c 1 _) (rowD _) (rowD _) (rowD _) (rowD _) (hX _ _ _) (rowD _) (rowD _) (rowD _) (rowD _)|exact zW (c:=putL c 2 _) (rowD _) (rowD _) (rowD _) (rowD _) (rowD _) (hX _ _ _) (rowD _) (rowD _) (rowD _)|exact zW (c:=putL c 3 _) (rowD _) (rowD _) (rowD _) (rowD _) (rowD _) (rowD _) (hX _ _ _) (rowD _) (rowD _)|exact zW (c:=putL c 4 _) (rowD _) (rowD _) (rowD _) (rowD _) (rowD _) (rowD _) (rowD _) (hX _ _ _) (rowD _)|exact zW (c:=putL c 5 _) (rowD _) (rowD _) (rowD _) (rowD _) (rowD _) (rowD _) (rowD _) (rowD _) (hX _ _ _)
 have hd:=hd e0
 obtain⟨L,hL⟩:∃ L,selL c j=L:=⟨_,rfl⟩
 rw[hL] at e0 q5 hG hsz hcl ⊢
 have am:=yl (n:=at_) (m:=(L.length:Int)) (by omega)
 have a2:=yw (n:=at_) (m:=(L.length:Int)) h2 (by omega)
 unfold uw
 generalize zA at_ (L.length:Int)=m at *
 obtain⟨m,rfl⟩:∃ i:Nat,m=i:=⟨m.toNat,by omega⟩
 rw[Int.toNat_natCast]
 have hm:m<L.length:=by omega
 rw[ze] at q4
 obtain⟨x,gx1,gx2⟩:=hG.at_ m hm
 have hlb:=hsz.2 _ (zm hm)
 have hxc:=gx2.gro.cells
 obtain⟨x2,v2,gy,_,ha⟩:=gx2.push (P:=Tryz.prog) (t:=23) (t2:=23) (sz:=1) (by_:=8) (by kernel_rfl) rfl (by omega) n (by omega)
 obtain⟨x3,v3,gz,_,hz⟩:=gy.push (P:=Tryz.prog) (t:=23) (t2:=23) (sz:=1) (by_:=8) (by kernel_rfl) rfl (by omega) n (by simp;omega)
 simp only[yG] at ha hz
 have hyc:=gy.gro.cells
 have hzc:=gz.gro.cells
 have g1:∀ Y,(K++Y)[d]? = some (.cells cs):=fun Y=>by rw[List.getElem?_append_left hd];exact q4
 have g2:∀ Y o,(K++Y).set d o=K.set d o++Y:=fun Y o=>by rw[List.set_append_left _ _ hd]
 have g3:∀ X x o,(K.set d o++x :: X)[K.length]? = some x:=fun X x o=>by rw[List.getElem?_append_right (by simp)];simp
 have g3':∀ X x,(K++x :: X)[K.length]? = some x:=fun X x=>by rw[List.getElem?_append_right (by simp)];simp
 have g8:∀ Y o,(K.set d o++Y)[d]? = some o:=fun Y o=>by rw[List.getElem?_append_left (by simpa using hd),List.getElem?_set_self hd]
 have g9:∀ Y o o',(K.set d o++Y).set d o'=K.set d o'++Y:=fun Y o o'=>by rw[List.set_append_left _ _ (by simpa using hd),List.set_set]
 have g4:m+1≤cs.length:=by omega
 have g5:m≤cs.length:=by omega
 have g7:m+1≤L.length:=by omega
 have g6:(m:Int)<L.length:=by omega
 have e0':(0:Int)<L.length:=by omega
 have e0'':0<L.length:=by omega
 have g10:(cs.set m x2)[m]? = some x2:=List.getElem?_set_self (by omega)
 have hX0:∀ A B Y z l,Weak z (row l)→z.under 0=true→DeepV (s++(A :: B :: (K.set d (.cells (cs.set m z))++Y))) s.length (.ref 1 (s.length+(d+2)) 0 L.length false) (row (L.set m l)):=fun A B Y z l hz hu=>by
  have hw:=hG.weak.put (k:=m) hz hu
  have hr:RowR (s++(A :: B :: (K.set d (.cells (cs.set m z))++Y))) 1 (L.set m l).length (cs.set m z) (.ref 1 (s.length+(d+2)) 0 L.length false) (s.length+(d+2)):=
   .inr ⟨by simpa using e0,by intro e;have h:=congrArg List.length e;rw[List.length_set,List.length_nil] at h;omega,by simp,by rw[ze];exact g8 Y _,by simp;omega⟩
  exact RowR.deep (α:=List Int) hr (by omega) hw.deep
 by_cases h11:w=11
 ·obtain⟨rfl,rfl⟩:w=11∧j=4:=by omega
  have hX:∀ A B Y,DeepV (s++(A :: B :: (K.set d (.cells (cs.set m x3))++Y))) s.length (.ref 1 (s.length+(d+2)) 0 L.length false) (row (L.set m (nth L m++[n,n]))):=fun A B Y=>by
   have:=hX0 A B Y x3 (nth L m++[n]++[n]) gz.gro.weak (gz.gro.under 0)
   simpa using this
  have hp:=gz.1
  rw[if_pos rfl]
  clear hG gx2 gy gz hX0 hsz hL hd q4 q2 hw
  unfold selX
  repeat' (first|(with_reducible first|refine uk ?_|refine wk ?_ ?_<;>intro _|(refine dr P11 mixed ?_ ?_ ?_;kernel_rfl;kernel_rfl)|refine And.intro ?_ ?_|refine zc a16 ?_|refine zc har ?_|refine zc a2 ?_)|simp -implicitDefEqProofs(disch:=first|assumption|omega)[*])
  all_goals first|exact hp|(first|exact zW (c:=putL c 0 _) (rowD _) (rowD _) (rowD _) (hX _ _ _) (rowD _) (rowD _) (rowD _) (rowD _) (rowD _)|exact zW (c:=putL c 1 _) (rowD _) (rowD _) (rowD _) (rowD _) (hX _ _ _) (rowD _) (rowD _) (rowD _) (rowD _)|exact zW (c:=putL c 2 _) (rowD _) (rowD _) (rowD _) (rowD _) (rowD _) (hX _ _ _) (rowD _) (rowD _) (rowD _)|exact zW (c:=putL c 3 _) (rowD _) (rowD _) (rowD _) (rowD _) (rowD _) (rowD _) (hX _ _ _) (rowD _) (rowD _)|exact zW (c:=putL c 4 _) (rowD _) (rowD _) (rowD _) (rowD _) (rowD _) (rowD _) (rowD _) (hX _ _ _) (rowD _)|exact zW (c:=putL c 5 _) (rowD _) (rowD _) (rowD _) (rowD _) (rowD _) (rowD _) (rowD _) (rowD _) (hX _ _ _))
 ·have hX:∀ A B Y,DeepV (s++(A :: B :: (K.set d (.cells (cs.set m x2))++Y))) s.length (.ref 1 (s.length+(d+2)) 0 L.length false) (row (L.set m (nth L m++[n]))):=fun A B Y=>hX0 A B Y x2 _ gy.gro.weak (gy.gro.under 0)
  have hp:=gy.1
  rw[if_neg h11]
  clear hG gx2 gy gz hX0 hsz hL hd q4 q2 hz hzc
  rcases hw with ⟨rfl,rfl⟩ | ⟨rfl,rfl⟩ | ⟨rfl,rfl⟩ | ⟨rfl,rfl⟩ | ⟨rfl,rfl⟩ | ⟨rfl,rfl⟩
  all_goals first|(exact absurd rfl h11)|skip
  all_goals
   unfold selX
   repeat' (first|(with_reducible first|refine uk ?_|refine wk ?_ ?_<;>intro _|(refine dr P11 mixed ?_ ?_ ?_;kernel_rfl;kernel_rfl)|refine And.intro ?_ ?_|refine zc a16 ?_|refine zc har ?_|refine zc a2 ?_)|simp -implicitDefEqProofs(disch:=first|assumption|omega)[*])
   all_goals first|exact hp|(first|exact zW (c:=putL c 0 _) (rowD _) (rowD _) (rowD _) (hX _ _ _) (rowD _) (rowD _) (rowD _) (rowD _) (rowD _)|exact zW (c:=putL c 1 _) (rowD _) (rowD _) (rowD _) (rowD _) (hX _ _ _) (rowD _) (rowD _) (rowD _) (rowD _)|exact zW (c:=putL c 2 _) (rowD _) (rowD _) (rowD _) (rowD _) (rowD _) (hX _ _ _) (rowD _) (rowD _) (rowD _)|exact zW (c:=putL c 3 _) (rowD _) (rowD _) (rowD _) (rowD _) (rowD _) (rowD _) (hX _ _ _) (rowD _) (rowD _)|exact zW (c:=putL c 4 _) (rowD _) (rowD _) (rowD _) (rowD _) (rowD _) (rowD _) (rowD _) (hX _ _ _) (rowD _)|exact zW (c:=putL c 5 _) (rowD _) (rowD _) (rowD _) (rowD _) (rowD _) (rowD _) (rowD _) (rowD _) (hX _ _ _))
def ClT (c:Cor)(t:Nat)(s:List AObj)(v:List Nat)(k:Nat)(q:List Nat × List AObj × Nat × LV):Prop:=
 v <+: q.1∧∃ xF xS,RowR (s++(AObj.cells [.int .i64 c.now,row c.threads,row c.owners,row c.counts,row c.bufs,row c.lockq,row c.waitq,row c.downq,row c.sendq,row c.recvq] :: AObj.cells [.int .i64 0,.nils,.nils,.nils,.nils,.nils,.nils,.nils,.nils,.nils] :: q.2.1)) 5 k (csT (c.threads.take k) t xF xS) q.2.2.2 (s.length+(q.2.2.1+2))∧(k≠0→q.2.2.1<q.2.1.length)∧(t<k→∃ ids r iF iS,ThrA (s++(AObj.cells [.int .i64 c.now,row c.threads,row c.owners,row c.counts,row c.bufs,row c.lockq,row c.waitq,row c.downq,row c.sendq,row c.recvq] :: AObj.cells [.int .i64 0,.nils,.nils,.nils,.nils,.nils,.nils,.nils,.nils,.nils] :: q.2.1)) (s.length+2) (s.length+(q.2.2.1+2)) (nth c.threads t) xF xS ids r iF iS)
set_option maxHeartbeats 8000000 in
theorem zfx {c:Cor}(hb:CorB c)(hthr:∀ t∈c.threads,ThrB t){t:Nat}(ht:t<c.threads.length){s:List AObj}{v:List Nat} : zp Tryz.prog 34 [.agg [.int .i64 c.now,row c.threads,row c.owners,row c.counts,row c.bufs,row c.lockq,row c.waitq,row c.downq,row c.sendq,row c.recvq]] s v (CloT c t s v):=by
 have hl:=hb.threads
 have hb1:=yZ hb.bufs.big
 have hb2:=yZ hb.lockq.big
 have hb3:=yZ hb.waitq.big
 have hb4:=yZ hb.downq.big
 have hb5:=yZ hb.sendq.big
 have hb6:=yZ hb.recvq.big
 refine ac1 Tryz.func34 Tryz.ntmps34 ?_
 have hrs:Tryz.f34.results = #[.cell 2 29]:=rfl
 repeat' (first|(with_reducible first|refine uk ?_|refine wk ?_ ?_<;>intro _)|simp -implicitDefEqProofs(disch:=first|assumption|omega)[*])
 refine zC (β:=List Nat × List AObj × Nat × LV) true c.threads.length (ClT c t s v) (fun k q=>[(3,q.2.2.2),(4,.int .i64 k),(7,.any),(8,.any),(9,.any),(10,.any),(11,.any),(14,.any),(15,.any),(16,.any),(17,.any),(18,.any),(19,.any),(20,.any),(21,.any),(22,.any),(12,.any),(13,.any)]) (fun _ q=>s++(AObj.cells [.int .i64 c.now,row c.threads,row c.owners,row c.counts,row c.bufs,row c.lockq,row c.waitq,row c.downq,row c.sendq,row c.recvq] :: AObj.cells [.int .i64 0,.nils,.nils,.nils,.nils,.nils,.nils,.nils,.nils,.nils] :: q.2.1)) (fun _ q=>q.1) ?_ ?_
 ·exact⟨(v,[],0,.nils),⟨List.prefix_refl _,.nils,.nils,.inl ⟨rfl,by simp[csT],rfl⟩,by simp,by simp⟩,fz0,rfl,rfl⟩
 rintro k ⟨v1,J,d,x⟩ hk ⟨hv1,xF,xS,hR,hd,hA⟩
 simp only at hv1 hR hd hA
 have hxc:=hR.cells
 by_cases hlt:k<c.threads.length
 ·have hx:=zB (l:=c.threads) (i:=(k:Int)) (by omega) (by omega)
  rw[Int.toNat_natCast] at hx
  have htk:=za hlt
  have htl:(c.threads.take k).length=k:=by simp;omega
  have hlt':(k:Int)<c.threads.length:=by omega
  clear hb1 hb2 hb3 hb4 hb5 hb6
  by_cases hkt:k=t
  ·subst hkt
   have hcl:=fun s v=>Xc (st:=(nth c.threads k).state) (on:=(nth c.threads k).on) (fr:=(nth c.threads k).frames) (sk:=(nth c.threads k).stack) (co:=(nth c.threads k).code) (hthr _ (zm hlt)) (s:=s) (v:=v)
   rw[zfk (by omega)] at hR
   repeat' (first|(with_reducible first|refine uk ?_|refine wk ?_ ?_<;>intro _|refine zkl (hcl _ _) (fun Jt ids r yF yS dF dS qF qS hF hS hi1 hi2=>?_))|simp -implicitDefEqProofs(disch:=first|assumption|omega)[*])
   have e1:(s++(AObj.cells [.int .i64 c.now,row c.threads,row c.owners,row c.counts,row c.bufs,row c.lockq,row c.waitq,row c.downq,row c.sendq,row c.recvq] :: AObj.cells [.int .i64 0,.nils,.nils,.nils,.nils,.nils,.nils,.nils,.nils,.nils] :: J)).length=s.length+(J.length+2):=by simp
   rw[e1] at hF hS hi1
   have eS:s++(AObj.cells [.int .i64 c.now,row c.threads,row c.owners,row c.counts,row c.bufs,row c.lockq,row c.waitq,row c.downq,row c.sendq,row c.recvq] :: AObj.cells [.int .i64 0,.nils,.nils,.nils,.nils,.nils,.nils,.nils,.nils,.nils] :: J)++Jt=s++(AObj.cells [.int .i64 c.now,row c.threads,row c.owners,row c.counts,row c.bufs,row c.lockq,row c.waitq,row c.downq,row c.sendq,row c.recvq] :: AObj.cells [.int .i64 0,.nils,.nils,.nils,.nils,.nils,.nils,.nils,.nils,.nils] :: (J++Jt)):=by simp
   rw[eS] at hF hS
   have hR1:RowR (s++(AObj.cells [.int .i64 c.now,row c.threads,row c.owners,row c.counts,row c.bufs,row c.lockq,row c.waitq,row c.downq,row c.sendq,row c.recvq] :: AObj.cells [.int .i64 0,.nils,.nils,.nils,.nils,.nils,.nils,.nils,.nils,.nils] :: (J++Jt))) 5 k (zd (c.threads.take k)) x (s.length+(d+2)):=hR.keep fun h0=>by rw[ze,ze,List.getElem?_append_left (hd h0)]
   obtain⟨J2,ha,hR2,hJ2,hK2⟩:=XL (P:=Tryz.prog) (t:=27) (t2:=27) (by_:=72) (by kernel_rfl) (by omega) hR1 (fun h0=>by have:=hd h0;simp;omega) (ds:=[.int .i64 (nth c.threads k).state,.int .i64 (nth c.threads k).on,yF,yS,.int .i64 (nth c.threads k).code]) rfl (by omega)
   have ha':=ha (.ref 5 (s.length+((J++Jt).length+2)) 0 1 true) (by simp[zQ])
   clear ha
   have hln:(J++Jt).length=J.length+Jt.length:=by simp
   rw[hln] at ha' hR2 hJ2
   simp only[List.append_assoc] at ha'
   repeat' (first|(with_reducible first|refine uk ?_|refine wk ?_ ?_<;>intro _)|simp -implicitDefEqProofs(disch:=first|assumption|omega)[*])
   have hbase:ThrA (s++(AObj.cells [.int .i64 c.now,row c.threads,row c.owners,row c.counts,row c.bufs,row c.lockq,row c.waitq,row c.downq,row c.sendq,row c.recvq] :: AObj.cells [.int .i64 0,.nils,.nils,.nils,.nils,.nils,.nils,.nils,.nils,.nils] :: (J++Jt))) (s.length+(J.length+2)) (s.length+(J.length+Jt.length+2)) (nth c.threads k) yF yS ids r (s.length+(J.length+2)+dF) (s.length+(J.length+2)+dS):=by
    have el:(s++(AObj.cells [.int .i64 c.now,row c.threads,row c.owners,row c.counts,row c.bufs,row c.lockq,row c.waitq,row c.downq,row c.sendq,row c.recvq] :: AObj.cells [.int .i64 0,.nils,.nils,.nils,.nils,.nils,.nils,.nils,.nils,.nils] :: (J++Jt))).length=s.length+(J.length+Jt.length+2):=by simp
    refine⟨hF.frames,hF.fr,hS,fun id hid=>?_,⟨by omega,fun h0=>?_⟩,⟨by omega,fun h0=>?_⟩,fun a b=>by have:=hi2 a b;omega⟩
    ·have q:=hF.ids id hid
     exact⟨q.1,by omega,q.2.2,fun h0=>by have:=hi1 h0 id hid;omega⟩
    ·have:=hF.at_.2 h0;omega
    ·have:=hS.lt h0;omega
   refine⟨hlt,(v1,J2,J.length+Jt.length+1,_),⟨hv1,yF,yS,by rw[htk,zkZ htl];exact hR2,fun _=>by show J.length+Jt.length+1<J2.length;omega,fun _=>⟨ids,r,_,_,hbase.keep (fun i h1 h2=>?_) (by omega) (by simp only;omega)⟩⟩,fz,by simp,rfl⟩
   obtain⟨q,rfl⟩:∃ q,i=s.length+(q+2):=⟨i-(s.length+2),by omega⟩
   rw[ze,ze]
   exact hK2 q (fun h0=>by have:=hd h0;omega) (by rw[hln];omega)
  ·have hcl:=QZ (st:=(nth c.threads k).state) (on:=(nth c.threads k).on) (fr:=(nth c.threads k).frames) (sk:=(nth c.threads k).stack) (co:=(nth c.threads k).code) (hthr _ (zm hlt))
   obtain⟨J2,ha,hR2,hJ2,hK2⟩:=XL (P:=Tryz.prog) (t:=27) (t2:=27) (by_:=72) (by kernel_rfl) (by omega) hR hd (ds:=(nth c.threads k).lv) rfl (by omega)
   have ha':=ha (.ref 5 (s.length+(J.length+2)) 0 1 true) (by simp[zQ,Thr.lv])
   clear ha
   simp only[Thr.lv] at ha'
   repeat' (first|(with_reducible first|refine uk ?_|refine wk ?_ ?_<;>intro _|refine zg hcl (fun v2 hv2=>?_))|simp -implicitDefEqProofs(disch:=first|assumption|omega)[*])
   have hcs:csT (c.threads.take (k+1)) t xF xS=csT (c.threads.take k) t xF xS++(nth c.threads k).lv:=by
    rw[htk]
    by_cases h:k<t
    ·rw[zfk (by simp;omega),zfk (by omega),Kv]
    ·rw[zkV (by omega)]
   refine⟨hlt,(v2,J2,J.length+1,_),⟨hv1.trans hv2,xF,xS,by rw[hcs];exact hR2,fun _=>by show J.length+1<J2.length;omega,fun h=>?_⟩,fz,by simp,rfl⟩
   obtain⟨ids,r,iF,iS,hA⟩:=hA (by omega)
   refine⟨ids,r,iF,iS,hA.keep (fun i h1 h2=>?_) (Nat.le_refl _) (by have:=hd (by omega);simp only;omega)⟩
   obtain⟨q,rfl⟩:∃ q,i=s.length+(q+2):=⟨i-(s.length+2),by omega⟩
   rw[ze,ze]
   exact hK2 q (fun h0=>by omega) (by have:=hd (by omega);omega)
 ·have:k=c.threads.length:=by omega
  subst this
  rw[List.take_of_length_le (Nat.le_refl _)] at hR
  obtain⟨ids,r,iF,iS,hA⟩:=hA ht
  obtain⟨xO,JO,haO,hxO,hO⟩:=QN (P:=Tryz.prog) (t:=23) (t2:=23) (by kernel_rfl) (l:=c.owners) (by have:=hb.owners;omega) s J (AObj.cells [.int .i64 c.now,x,row c.owners,row c.counts,row c.bufs,row c.lockq,row c.waitq,row c.downq,row c.sendq,row c.recvq]) (AObj.cells [.int .i64 0,.nils,.nils,.nils,.nils,.nils,.nils,.nils,.nils,.nils])
  obtain⟨xC,JC,haC,hxC,hC⟩:=QN (P:=Tryz.prog) (t:=23) (t2:=23) (by kernel_rfl) (l:=c.counts) (by have:=hb.counts;omega) s (J++JO) (AObj.cells [.int .i64 c.now,x,xO,row c.counts,row c.bufs,row c.lockq,row c.waitq,row c.downq,row c.sendq,row c.recvq]) (AObj.cells [.int .i64 0,.nils,.nils,.nils,.nils,.nils,.nils,.nils,.nils,.nils])
  simp only[List.append_assoc] at haC
  have hn0:c.threads.length≠0:=by omega
  have hd':=hd hn0
  obtain⟨_,hrx,rfl,hJ,_⟩:=hR.resolve_left fun h=>hn0 h.1
  rw[ze] at hJ
  repeat' (first|(with_reducible first|refine uk ?_|refine wk ?_ ?_<;>intro _|refine zg hb1 (fun v2 hv2=>?_)|refine zg hb2 (fun v3 hv3=>?_)|refine zg hb3 (fun v4 hv4=>?_)|refine zg hb4 (fun v5 hv5=>?_)|refine zg hb5 (fun v6 hv6=>?_)|refine zg hb6 (fun v7 hv7=>?_))|simp -implicitDefEqProofs(disch:=first|assumption|omega)[*])
  refine⟨_ :: _ :: (J++(JO++JC)),d+2,xO,xC,J.length+2,(J++JO).length+2,xF,xS,ids,r,iF,iS,rfl,?_,hA.keep (fun i h1 h2=>?_) (by omega) (Nat.le_refl _),hO _ _ JC,?_,by omega,by simp;omega,hv1.trans (hv2.trans (hv3.trans (hv4.trans (hv5.trans (hv6.trans hv7))))),rfl⟩
  ·show (J++(JO++JC))[d]? = _
   rw[List.getElem?_append_left hd'];exact hJ
  ·obtain⟨q,rfl⟩:∃ q,i=s.length+(q+2):=⟨i-(s.length+2),by omega⟩
   rw[ze,ze,List.getElem?_append_left (by omega)]
  ·have:=hC (AObj.cells [.int .i64 c.now,.ref 5 (s.length+(d+2)) 0 c.threads.length false,xO,xC,row c.bufs,row c.lockq,row c.waitq,row c.downq,row c.sendq,row c.recvq]) (AObj.cells [.int .i64 c.now,.ref 5 (s.length+(d+2)) 0 c.threads.length false,xO,xC,row c.bufs,row c.lockq,row c.waitq,row c.downq,row c.sendq,row c.recvq]) []
   simpa using this
set_option maxHeartbeats 8000000 in
theorem zji {ver ep:Int}{p:Prog}{c:Cor}{what at_ n w:Int}{k:Nat}(hs:SizeC c k)(hk:k≤2)(h1:I64 what)(h2:I64 at_)(hwe:zA what 16=w)(hw:w=4∨w=5) :
  zG Tryz.prog 11 [.agg [.int .i64 ver,.int .i64 ep,row p.funcs,.int .i64 p.mutexes,row p.conds,row p.semas,row p.chans,row p.choices,.int .i64 p.threads,.int .i64 c.now,row c.threads,row c.owners,row c.counts,row c.bufs,row c.lockq,row c.waitq,row c.downq,row c.sendq,row c.recvq],.int .i64 what,.int .i64 at_,.int .i64 n] (.agg (Ku ⟨ver,ep,p,c⟩ what at_ n).lv):=by
 have hb:=hs.corB hk
 have hthr:=hs.thrB hk
 have hn:=hs.thr
 have hne:c.threads≠[]:=fun e=>by rw[e] at hn;simp at hn
 have a16:=yw (n:=what) (m:=16) h1 (by omega)
 unfold Ku
 rw[hwe] at a16
 rw[hwe]
 clear hwe
 have hat:=yl (n:=at_) (m:=(c.threads.length:Int)) (by omega)
 have har:=yw (n:=at_) (m:=(c.threads.length:Int)) h2 (by omega)
 have htt:∀ f,Zo c at_ f = {c with threads:=c.threads.set (zA at_ (c.threads.length:Int)).toNat (f (nth c.threads (zA at_ (c.threads.length:Int)).toNat)) }:=fun _=>rfl
 generalize zA at_ (c.threads.length:Int)=j at *
 obtain⟨i,rfl⟩:∃ i:Nat,j=i:=⟨j.toNat,by omega⟩
 rw[Int.toNat_natCast] at htt
 have hi:i<c.threads.length:=by omega
 have htb:=hthr _ (zm hi)
 intro s v
 refine zS ?_
 refine ac1 Tryz.func11 Tryz.ntmps11 ?_
 have hrs:Tryz.f11.results = #[.cell 8 31]:=rfl
 repeat' (first|(with_reducible first|refine uk ?_|refine wk ?_ ?_<;>intro _|(refine dw P11 mixed ?_ ?_ ?_;kernel_rfl;kernel_rfl)|refine And.intro ?_ ?_)|simp -implicitDefEqProofs(disch:=first|assumption|omega)[*])
 refine zj (zfx hb hthr hi) ?_
 intro x1 s1 v1 hc1
 obtain⟨J,d,xO,xC,dO,dC,xF,xS,ids,r,iF,iS,rfl,hJ,hA,hO,hC,nO,nC,hv1,rfl⟩:=hc1.two
 clear hc1 hb hthr hs
 have hd:=(List.getElem?_eq_some_iff.1 hJ).1
 have hcl:=zfN c.threads i xF xS
 have hcS:(csT c.threads i xF xS)[i*5+3]? = some xS:=by unfold csT;rw[List.getElem?_set_self (by simp[thr5];omega)]
 have hcF:(csT c.threads i xF xS)[i*5+2]? = some xF:=by unfold csT;rw[List.getElem?_set_ne (by omega),List.getElem?_set_self (by simp[thr5];omega)]
 have hcs:∀ y,(csT c.threads i xF xS).set (i*5+3) y=csT c.threads i xF y:=fun y=>by unfold csT;rw[List.set_set]
 have hJX:∀ Y,(J++Y)[d]? = some (.cells (csT c.threads i xF xS)):=fun Y=>by rw[List.getElem?_append_left hd];exact hJ
 have hJl:∀ X x,(J++x :: X)[J.length]? = some x:=fun X x=>by rw[List.getElem?_append_right (by simp)];simp
 have qF:=hA.frames.cells
 have qS:=hA.stack.cells
 have hki:(i:Int)<c.threads.length:=by omega
 obtain⟨f,rfl⟩:∃ f,iF=s.length+(f+2):=⟨iF-(s.length+2),by have:=hA.atF.1;omega⟩
 obtain⟨q,rfl⟩:∃ q,iS=s.length+(q+2):=⟨iS-(s.length+2),by have:=hA.atS.1;omega⟩
 have hT5:∀ (J':List AObj) A B Y y fr sk,J'[d]? = some (.cells (csT c.threads i xF y))→d<J'.length→DeepV (s++(A :: B :: (J'++Y))) s.length xF (row fr)→DeepV (s++(A :: B :: (J'++Y))) s.length y (row sk)→DeepV (s++(A :: B :: (J'++Y))) s.length (.ref 5 (s.length+(d+2)) 0 c.threads.length false) (row (c.threads.set i {nth c.threads i with frames:=fr,stack:=sk })):=fun J' A B Y y fr sk e1 e2 e3 e4=>
  zjq (by omega) (by rw[ze,List.getElem?_append_left e2];exact e1) (zfN _ _ _ _) hne (by simp) (zhK hi e3 e4)
 have hO5:∀ (J':List AObj) A B Y,J'.length=J.length→(∀ e,d<e→J'[e]? = J[e]?)→DeepV (s++(A :: B :: (J'++Y))) s.length xO (row c.owners):=fun J' A B Y e1 e2=>RowR.deep0 (id:=s.length+(dO+2)) (hO.keep fun h0=>by
  have hl:=hO.lt h0
  simp at hl
  rw[ze,ze,List.getElem?_append_left (by omega),e2 dO nO]) (by omega)
 have hC5:∀ (J':List AObj) A B Y,J'.length=J.length→(∀ e,d<e→J'[e]? = J[e]?)→DeepV (s++(A :: B :: (J'++Y))) s.length xC (row c.counts):=fun J' A B Y e1 e2=>RowR.deep0 (id:=s.length+(dC+2)) (hC.keep fun h0=>by
  have hl:=hC.lt h0
  simp at hl
  rw[ze,ze,List.getElem?_append_left (by omega),e2 dC nC]) (by omega)
 rcases hw with rfl | rfl
 ·have htw:zaA c 4 at_ n = {c with threads:=c.threads.set i {nth c.threads i with stack:=(nth c.threads i).stack++[n] } }:=htt fun t=>{t with stack:=t.stack++[n] }
  rw[htw]
  clear htw htt
  have hm:(nth c.threads i).stack.length≤18:=htb.2.1
  have hqd:(nth c.threads i).stack.length≠0→q<d:=fun h=>by have:=hA.atS.2 h;omega
  have hOS:∀ A B Y,RowR (s++(A :: B :: (J++Y))) 1 (nth c.threads i).stack.length (zd (nth c.threads i).stack) xS (s.length+(q+2)):=fun A B Y=>hA.stack.keep fun h0=>by
   have:=hqd h0
   rw[ze,ze,List.getElem?_append_left (by omega)]
  obtain⟨J',l1,l2,ha⟩:∃ J':List AObj,J'.length=J.length∧(∀ e,((nth c.threads i).stack.length≠0→e≠q)→J'[e]? = J[e]?)∧∀ A B Y r,zk Tryz.prog 23 23 xS (.imm 1 1 [.int .i64 n] r) (s++(A :: B :: (J++Y)))=some (.ref 1 (s.length+(J.length+Y.length+2)) 0 ((nth c.threads i).stack.length+1) false,s++(A :: B :: (J'++(Y++[.cells (zd (nth c.threads i).stack++[.int .i64 n])])))):=by
   by_cases e0:(nth c.threads i).stack.length=0
   ·refine⟨J,rfl,fun _ _=>rfl,fun A B Y r=>?_⟩
    rw[uF (by_:=8) (by kernel_rfl) (by omega) (by omega) (hOS A B Y) rfl (by omega) r,if_pos e0];simp
   ·refine⟨J.set q (.cells []),by simp,fun e he=>List.getElem?_set_ne (Ne.symm (he e0)),fun A B Y r=>?_⟩
    have:=hqd e0
    rw[uF (by_:=8) (by kernel_rfl) (by omega) (by omega) (hOS A B Y) rfl (by omega) r,if_neg e0,Yp,List.set_append_left _ _ (by omega)];simp
  have ha2:=fun A B x r=>ha A B [x] r
  simp only[List.length_cons,List.length_nil,List.cons_append,List.nil_append,Nat.zero_add] at ha2
  have hjd:J'[d]? = some (.cells (csT c.threads i xF xS)):=by rw[l2 d (fun h=>by have:=hqd h;omega)];exact hJ
  have g1:∀ X x,(J'++x :: X)[J.length]? = some x:=fun X x=>by rw[← l1,List.getElem?_append_right (by simp)];simp
  have g2:∀ X x o,(J'.set d o++x :: X)[J.length]? = some x:=fun X x o=>by rw[← l1,List.getElem?_append_right (by simp)];simp
  have g3:∀ Y,(J'++Y)[d]? = some (.cells (csT c.threads i xF xS)):=fun Y=>by rw[List.getElem?_append_left (by omega)];exact hjd
  have g4:∀ Y o,(J'++Y).set d o=J'.set d o++Y:=fun Y o=>by rw[List.set_append_left _ _ (by omega)]
  have kp:∀ o e,((nth c.threads i).stack.length≠0→e≠q)→e≠d→(J'.set d o)[e]? = J[e]?:=fun o e h h2=>by rw[List.getElem?_set_ne (Ne.symm h2),l2 e h]
  have g5:i*5+3+1≤(csT c.threads i xF xS).length:=by omega
  have g6:i*5+3≤(csT c.threads i xF xS).length:=by omega
  have g7:i*5+3+1≤c.threads.length*5:=by omega
  have g8:i*5+3≤c.threads.length*5:=by omega
  have hFd:∀ A B Y o,DeepV (s++(A :: B :: (J'.set d o++Y))) s.length xF (row (nth c.threads i).frames):=fun A B Y o=>by
   have hv2:yK (s++(A :: B :: (J'.set d o++Y))) (nth c.threads i).frames ids r:=hA.fr.keep fun id hid=>by
    have a:=hA.ids id hid
    obtain⟨e,rfl⟩:∃ e,id=s.length+(e+2):=⟨id-(s.length+2),by omega⟩
    rw[ze,ze,List.getElem?_append_left (by simp;omega),kp _ e (fun h h'=>a.2.2.2 h (by omega)) (by omega)]
   exact RowR.deep (α:=Frm) (id:=s.length+(f+2)) (hA.frames.keep fun h0=>by
    have:=hA.atF.2 h0
    rw[ze,ze,List.getElem?_append_left (by simp;omega),kp _ f (fun h h'=>hA.ne h0 h (by omega)) (by omega)]) (by omega) (hv2.deep fun id hid=>by have:=(hA.ids id hid).1;omega)
  have e:zd ((nth c.threads i).stack++[n])=zd (nth c.threads i).stack++[.int .i64 n]:=by simp[zd,Enc.enc]
  have hSd:∀ A B x o,DeepV (s++(A :: B :: (J'.set d o++x :: [.cells (zd (nth c.threads i).stack++[.int .i64 n])]))) s.length (.ref 1 (s.length+(J.length+1+2)) 0 ((nth c.threads i).stack.length+1) false) (row ((nth c.threads i).stack++[n])):=fun A B x o=>by
   have:=DeepV.ref_row (S:=s++(A :: B :: (J'.set d o++x :: [.cells (zd (nth c.threads i).stack++[.int .i64 n])]))) (n:=s.length) (id:=s.length+(J.length+1+2)) (fl:=false) (l:=(nth c.threads i).stack++[n]) (by omega) (by rw[ze,List.getElem?_append_right (by simp;omega),e];simp[l1]) (by rw[e];simp)
   rw[List.length_append] at this
   exact this
  have hT:∀ A B x,DeepV (s++(A :: B :: (J'.set d (.cells (csT c.threads i xF (.ref 1 (s.length+(J.length+1+2)) 0 ((nth c.threads i).stack.length+1) false)))++x :: [.cells (zd (nth c.threads i).stack++[.int .i64 n])]))) s.length (.ref 5 (s.length+(d+2)) 0 c.threads.length false) (row (c.threads.set i {nth c.threads i with stack:=(nth c.threads i).stack++[n] })):=fun A B x=>
   hT5 (J'.set d _) A B _ _ _ _ (List.getElem?_set_self (by omega)) (by simp;omega) (hFd A B _ _) (hSd A B x _)
  have hO6:=fun A B Y o=>hO5 (J'.set d o) A B Y (by simpa using l1) (fun e he=>kp _ e (fun h=>by have:=hqd h;omega) (by omega))
  have hC6:=fun A B Y o=>hC5 (J'.set d o) A B Y (by simpa using l1) (fun e he=>kp _ e (fun h=>by have:=hqd h;omega) (by omega))
  clear hT5 hO5 hC5 hA hO hC hFd hSd hJ hcF kp l2 ha hOS hqd e
  repeat' (first|(with_reducible first|refine uk ?_|refine wk ?_ ?_<;>intro _|(refine dw P11 mixed ?_ ?_ ?_;kernel_rfl;kernel_rfl)|refine And.intro ?_ ?_|refine zc a16 ?_|refine zc har ?_)|simp -implicitDefEqProofs(disch:=first|assumption|omega)[*])
  all_goals exact zW (c:={c with threads:=c.threads.set i {nth c.threads i with stack:=(nth c.threads i).stack++[n] } }) (hT _ _ _) (hO6 _ _ _ _) (hC6 _ _ _ _) (rowD _) (rowD _) (rowD _) (rowD _) (rowD _) (rowD _)
 ·have htw:zaA c 5 at_ n = {c with threads:=c.threads.set i (pcTo n (nth c.threads i)) }:=htt (pcTo n)
  rw[htw]
  clear htw htt
  have h3:i*5+2+1≤(csT c.threads i xF xS).length:=by omega
  have h3':i*5+2≤(csT c.threads i xF xS).length:=by omega
  by_cases h0:(nth c.threads i).frames.length=0
  ·obtain⟨_,e1,rfl⟩:(nth c.threads i).frames.length=0∧r=[]∧xF = .nils:=by
    rcases hA.frames with h | h
    ·exact h
    ·exact absurd h0 h.1
   have efr:(nth c.threads i).frames=[]:=List.eq_nil_of_length_eq_zero h0
   have hFd:∀ A B Y,DeepV (s++(A :: B :: (J++Y))) s.length .nils (row ((nth c.threads i).frames.set 0 {nth (nth c.threads i).frames 0 with pc:=n })):=fun A B Y=>by
    rw[efr];exact .weak _ _ _ (.keep _ rfl) Weak.nilrow
   have hSd:∀ A B Y,DeepV (s++(A :: B :: (J++Y))) s.length xS (row (nth c.threads i).stack):=fun A B Y=>RowR.deep0 (id:=s.length+(q+2)) (hA.stack.keep fun h0=>by
    have:=hA.atS.2 h0
    rw[ze,ze,List.getElem?_append_left (by omega)]) (by omega)
   have hT:∀ A B Y,DeepV (s++(A :: B :: (J++Y))) s.length (.ref 5 (s.length+(d+2)) 0 c.threads.length false) (row (c.threads.set i (pcTo n (nth c.threads i)))):=fun A B Y=>hT5 J A B Y xS _ _ hJ hd (hFd A B Y) (hSd A B Y)
   have hO6:=fun A B Y=>hO5 J A B Y rfl (fun _ _=>rfl)
   have hC6:=fun A B Y=>hC5 J A B Y rfl (fun _ _=>rfl)
   clear hT5 hO5 hC5 hA hO hC hFd hSd hJ hcs hcS
   generalize csT c.threads i .nils xS=T at *
   repeat' (first|(with_reducible first|refine uk ?_|refine wk ?_ ?_<;>intro _|(refine dw P11 mixed ?_ ?_ ?_;kernel_rfl;kernel_rfl)|refine And.intro ?_ ?_|refine zc a16 ?_|refine zc har ?_)|simp -implicitDefEqProofs(disch:=first|assumption|omega)[*])
   all_goals exact zW (c:={c with threads:=c.threads.set i (pcTo n (nth c.threads i)) }) (hT _ _ _) (hO6 _ _ _) (hC6 _ _ _) (rowD _) (rowD _) (rowD _) (rowD _) (rowD _) (rowD _)
  ·obtain⟨_,r2,rfl,r4,r5⟩:=hA.frames.resolve_left fun h=>h0 h.1
   rw[ze] at r4
   have hf:=(List.getElem?_eq_some_iff.1 r4).1
   have hfd:f<d:=by have:=hA.atF.2 h0;omega
   have hm:(nth c.threads i).frames.length≤8:=htb.1
   have e0':(0:Int)<(nth c.threads i).frames.length:=by omega
   have e0'':0<(nth c.threads i).frames.length:=by omega
   have g1:∀ Y,(J++Y)[f]? = some (.cells r):=fun Y=>by rw[List.getElem?_append_left hf];exact r4
   have g2:∀ Y o,(J++Y).set f o=J.set f o++Y:=fun Y o=>by rw[List.set_append_left _ _ hf]
   have g3:∀ X x o,(J.set f o++x :: X)[J.length]? = some x:=fun X x o=>by rw[List.getElem?_append_right (by simp)];simp
   have g4:0+1+1≤r.length:=by omega
   have g5:0+1≤r.length:=by omega
   have g6:1+1≤r.length:=by omega
   have g7:2≤r.length:=by omega
   have g8:2≤(nth c.threads i).frames.length*3:=by omega
   have g9:1≤(nth c.threads i).frames.length*3:=by omega
   have kp:∀ o e,e≠f→(J.set f o)[e]? = J[e]?:=fun o e h=>List.getElem?_set_ne (Ne.symm h)
   have hFd:∀ A B Y,DeepV (s++(A :: B :: (J.set f (.cells (r.set 1 (.int .i64 n)))++Y))) s.length (.ref 3 (s.length+(f+2)) 0 (nth c.threads i).frames.length false) (row ((nth c.threads i).frames.set 0 {nth (nth c.threads i).frames 0 with pc:=n })):=fun A B Y=>by
    have hv:=yK.pc (pc:=n) 0 hA.fr e0''
    rw[Nat.zero_mul,Nat.zero_add] at hv
    have hv2:yK (s++(A :: B :: (J.set f (.cells (r.set 1 (.int .i64 n)))++Y))) ((nth c.threads i).frames.set 0 {nth (nth c.threads i).frames 0 with pc:=n }) ids (r.set 1 (.int .i64 n)):=hv.keep fun id hid=>by
     have a:=hA.ids id hid
     obtain⟨e,rfl⟩:∃ e,id=s.length+(e+2):=⟨id-(s.length+2),by omega⟩
     rw[ze,ze,List.getElem?_append_left (by simp;omega),kp _ e (fun h=>a.2.2.1 h0 (by omega))]
    refine RowR.deep (α:=Frm) (id:=s.length+(f+2)) (cs:=r.set 1 (.int .i64 n)) (.inr ⟨by simpa using h0,by intro e;have h:=congrArg List.length e;rw[List.length_set,List.length_nil] at h;omega,by simp,by rw[ze,List.getElem?_append_left (by simpa using hf),List.getElem?_set_self hf],by simpa using r5⟩) (by omega) (hv2.deep fun id hid=>by have:=(hA.ids id hid).1;omega)
   have hSd:∀ A B Y,DeepV (s++(A :: B :: (J.set f (.cells (r.set 1 (.int .i64 n)))++Y))) s.length xS (row (nth c.threads i).stack):=fun A B Y=>RowR.deep0 (id:=s.length+(q+2)) (hA.stack.keep fun hs=>by
    have:=hA.atS.2 hs
    have:=hA.ne h0 hs
    rw[ze,ze,List.getElem?_append_left (by simp;omega),kp _ q (by omega)]) (by omega)
   have hT:∀ A B Y,DeepV (s++(A :: B :: (J.set f (.cells (r.set 1 (.int .i64 n)))++Y))) s.length (.ref 5 (s.length+(d+2)) 0 c.threads.length false) (row (c.threads.set i (pcTo n (nth c.threads i)))):=fun A B Y=>
    hT5 (J.set f (.cells (r.set 1 (.int .i64 n)))) A B Y xS _ _ (by rw[kp _ d (by omega)];exact hJ) (by simpa using hd) (hFd A B Y) (hSd A B Y)
   have hO6:=fun A B Y=>hO5 (J.set f (.cells (r.set 1 (.int .i64 n)))) A B Y (by simp) (fun e he=>kp _ e (by omega))
   have hC6:=fun A B Y=>hC5 (J.set f (.cells (r.set 1 (.int .i64 n)))) A B Y (by simp) (fun e he=>kp _ e (by omega))
   clear hT5 hO5 hC5 hA hO hC hFd hSd hJ hcs hcS kp
   generalize csT c.threads i _ xS=T at *
   repeat' (first|(with_reducible first|refine uk ?_|refine wk ?_ ?_<;>intro _|(refine dw P11 mixed ?_ ?_ ?_;kernel_rfl;kernel_rfl)|refine And.intro ?_ ?_|refine zc a16 ?_|refine zc har ?_)|simp -implicitDefEqProofs(disch:=first|assumption|omega)[*])
   all_goals exact zW (c:={c with threads:=c.threads.set i (pcTo n (nth c.threads i)) }) (hT _ _ _) (hO6 _ _ _) (hC6 _ _ _) (rowD _) (rowD _) (rowD _) (rowD _) (rowD _) (rowD _)
theorem zkv {x:Img}{what at_ n:Int}{k:Nat}(hs:SizeC x.c k)(hk:k≤2)(h1:I64 what)(h2:I64 at_):zG Tryz.prog 11 [.agg x.lv,.int .i64 what,.int .i64 at_,.int .i64 n] (.agg (Ku x what at_ n).lv):=by
 obtain⟨ver,ep,p,c⟩:=x
 have h16:=yl (n:=what) (m:=16) (by omega)
 obtain⟨w,hw⟩:∃ w,zA what 16=w:=⟨_,rfl⟩
 rw[hw] at h16
 have hc:(w=0∨w=1∨w=2∨w=3∨w=6∨w=7∨w=14)∨w=15∨(w=4∨w=5)∨(w=13∨w=8∨w=9∨w=10∨w=11∨w=12):=by omega
 rcases hc with hc | rfl | hc | hc
 ·exact zjl hs hk h1 h2 hw hc
 ·exact zkq hs hk h1 h2 hw
 ·exact zji hs hk h1 h2 hw hc
 ·rcases hc with e | e | e | e | e | e
  ·exact Kr (j:=0) hs hk h1 h2 hw (by omega)
  ·exact Kr (j:=1) hs hk h1 h2 hw (by omega)
  ·exact Kr (j:=2) hs hk h1 h2 hw (by omega)
  ·exact Kr (j:=3) hs hk h1 h2 hw (by omega)
  ·exact Kr (j:=4) hs hk h1 h2 hw (by omega)
  ·exact Kr (j:=5) hs hk h1 h2 hw (by omega)
theorem zhv {c:Cor}(h:SizeC c 2):BigC c:=by
 have q:∀ {L:List (List Int)},Qi L 2→BigR L:=fun {L} h=>⟨by have:=h.1;omega,fun l hl=>by have:=h.2 l hl;omega⟩
 exact⟨⟨by have:=h.thr;omega,fun t ht=>by have:=h.th t ht;exact⟨by have:=this.1;omega,by have:=this.2.1;omega,fun f hf=>by have:=this.2.2 f hf;omega⟩⟩,by have:=h.owners;omega,by have:=h.counts;omega,q h.bufs,q h.lockq,q h.waitq,q h.downq,q h.sendq,q h.recvq⟩
theorem zgv {g:Prog}(hp:MayP g)(hm:mayP g=true):zM Tryz.prog 35 [.agg [row g.funcs,.int .i64 g.mutexes,row g.conds,row g.semas,row g.chans,row g.choices,.int .i64 g.threads]] (.bool true):=by
 have h:=zgD (fs:=g.funcs) (mu:=g.mutexes) (th:=g.threads) (co:=g.conds) (se:=g.semas) (ch:=g.chans) (cho:=g.choices) (by have:=hp.funcs;omega) (by have:=hp.conds;omega) (by have:=hp.semas;omega) (by have:=hp.chans;omega) (by have:=hp.choices;omega) (fun l hl=>by have:=(hp.choices.2 l hl).2.2.1;omega) (by have:=hp.mutexes;constructor<;>omega)
 rw[show mayP ⟨g.funcs,g.mutexes,g.conds,g.semas,g.chans,g.choices,g.threads⟩=true from hm] at h
 exact h
end Go.Hb
end
