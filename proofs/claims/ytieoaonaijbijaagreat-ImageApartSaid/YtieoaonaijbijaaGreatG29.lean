/-
  A layer for reasoning about the program's calls, and contracts of its functions. CONDITIONS: none; each theorem bears its own.
-/
import Derived.Test.YtieoaonaijbijaaGreatG28
import Derived.Test.YtieoaonaijbijaaGreatG27
import Derived.Test.YtieoaonaijbijaaGreatG09
set_option linter.unusedVariables false
set_option linter.unusedSimpArgs false
section
namespace Go.Hb
open Go Go.Proofs Go.RowKit
set_option maxRecDepth 100000
set_option maxHeartbeats 800000
attribute [-simp] aC aL aOper aThen aInBlock aIf aPlan aAppend aLen aIndexAddr aSlice aCells aBounds lBr aq initT aev aAppendOwn aAppendNil aAppendNew aAppendRef LV.cells LV.cellsOk getElem?_pos getElem?_neg
set_option maxHeartbeats 8000000 in
theorem turnE_p {ver ep:Int} {p:Prog} {c:Cor} {what at_ n:Int} {k:Nat} (hs:SizeC c k) (hk:k≤2) (h1:I64 what) (h2:I64 at_) (hwe:around what 16=15) :
  PureC Tryz.prog 11 [.agg [.int .i64 ver,.int .i64 ep,row p.funcs,.int .i64 p.mutexes,row p.conds,row p.semas,row p.chans,row p.choices,.int .i64 p.threads,.int .i64 c.now,row c.threads,row c.owners,row c.counts,row c.bufs,row c.lockq,row c.waitq,row c.downq,row c.sendq,row c.recvq],.int .i64 what,.int .i64 at_,.int .i64 n] (.agg (turnC ⟨ver,ep,p,c⟩ what at_ n).lv):=by
 have hb:=hs.corB hk
 have hthr:=hs.thrB hk
 have hn:=hs.thr
 have ho:=hs.owners
 have hcn:=hs.counts
 have hne:c.threads≠[]:=fun e=>by rw [e] at hn;simp at hn
 have a16:=around_p (n:=what) (m:=16) h1 (by omega)
 unfold turnC
 rw [hwe] at a16
 rw [hwe]
 clear hwe
 have hat:=around_in (n:=at_) (m:=(c.threads.length:Int)) (by omega)
 have har:=around_p (n:=at_) (m:=(c.threads.length:Int)) h2 (by omega)
 have htt:∀ f,thrAt c at_ f = {c with threads:=c.threads.set (around at_ (c.threads.length:Int)).toNat (f (nth c.threads (around at_ (c.threads.length:Int)).toNat)) }:=fun _=>rfl
 generalize around at_ (c.threads.length:Int)=j at *
 obtain⟨i,rfl⟩:∃ i:Nat,j=i:=⟨j.toNat,by omega⟩
 rw [Int.toNat_natCast] at htt
 have hi:i<c.threads.length:=by omega
 intro s v
 refine aCalls_deep ?_
 refine ac1 Tryz.func11 Tryz.ntmps11 ?_
 have hrs:Tryz.f11.results = #[.cell 8 31]:=rfl
 repeat' (first|(with_reducible first|refine uk ?_|refine wk ?_ ?_<;>intro _|(refine dw P11 mixed ?_ ?_ ?_;kernel_rfl;kernel_rfl)|refine And.intro ?_ ?_)|simp -implicitDefEqProofs(disch:=first|assumption|omega)[*])
 refine aCalls_mono (clone11_o hb hthr hne) ?_
 intro x1 s1 v1 hc1
 obtain⟨J,d,xO,xC,dO,dC,rfl,hJ,hO,hC,nO,nC,hv1,rfl⟩:=hc1.two
 clear hc1
 have hd:=(List.getElem?_eq_some_iff.1 hJ).1
 have hJX:∀ Y,(J++Y)[d]? = some (.cells (rowCs c.threads)):=fun Y=>by rw [List.getElem?_append_left hd];exact hJ
 have hJl:∀ X x,(J++x :: X)[J.length]? = some x:=fun X x=>by rw [List.getElem?_append_right (by simp)];simp
 have hki:(i:Int)<c.threads.length:=by omega
 have hkeep:∀ Y,∀ e,e≠d→e<J.length→(J++Y)[e]? = J[e]?:=fun Y e _ he=>List.getElem?_append_left he
 have hOS:∀ A B Y,RowR (s++(A :: B :: (J++Y))) 1 c.owners.length (rowCs c.owners) xO (s.length+(dO+2)):=fun A B Y=>hO.oth2 (hkeep Y) (fun _=>nO)
 obtain⟨J',l1,l2,ha⟩:∃ J':List AObj,J'.length=J.length∧(∀ e,(c.owners.length≠0→e≠dO)→J'[e]? = J[e]?)∧∀ A B Y r,aAppendOwn Tryz.prog 23 23 xO (.imm 1 1 [.int .i64 n] r) (s++(A :: B :: (J++Y)))=some (.ref 1 (s.length+(J.length+Y.length+2)) 0 (c.owners.length+1) false,s++(A :: B :: (J'++(Y++[.cells (rowCs c.owners++[.int .i64 n])])))):=by
  by_cases e0:c.owners.length=0
  ·refine⟨J,rfl,fun _ _=>rfl,fun A B Y r=>?_⟩
   rw [own_app (by_:=8) (by kernel_rfl) (by omega) (by omega) (hOS A B Y) rfl (by omega) r,if_pos e0];simp
  ·refine⟨J.set dO (.cells []),by simp,fun e he=>List.getElem?_set_ne (Ne.symm (he e0)),fun A B Y r=>?_⟩
   have hl:=hO.lt e0
   simp at hl
   rw [own_app (by_:=8) (by kernel_rfl) (by omega) (by omega) (hOS A B Y) rfl (by omega) r,if_neg e0,layB_set,List.set_append_left _ _ (by omega)];simp
 have ha2:=fun A B x r=>ha A B [x] r
 simp only [List.length_cons,List.length_nil,List.cons_append,List.nil_append,Nat.zero_add] at ha2
 have g1:∀ X x,(J'++x :: X)[J.length]? = some x:=fun X x=>by rw [← l1,List.getElem?_append_right (by simp)];simp
 have hT2:∀ A B Y,DeepV (s++(A :: B :: (J'++Y))) s.length (.ref 5 (s.length+(d+2)) 0 c.threads.length false) (row c.threads):=fun A B Y=>DeepV.ref_row (by omega) (by rw [layB_get,List.getElem?_append_left (by omega),l2 d (fun _=>Ne.symm nO)];exact hJ) (rowCs_ne (by decide) hne)
 have hC2:∀ A B Y,DeepV (s++(A :: B :: (J'++Y))) s.length xC (row c.counts):=fun A B Y=>RowR.deep0 (id:=s.length+(dC+2)) (hC.keep fun h0=>by
  have hl:=hC.lt h0
  simp at hl
  rw [layB_get,layB_get,List.getElem?_append_left (by omega),l2 dC (fun h=>Ne.symm (nC.2 h))]) (by omega)
 have hO2:∀ A B x,DeepV (s++(A :: B :: (J'++x :: [.cells (rowCs c.owners++[.int .i64 n])]))) s.length (.ref 1 (s.length+(J.length+1+2)) 0 (c.owners.length+1) false) (row (c.owners++[n])):=fun A B x=>by
  have e:rowCs (c.owners++[n])=rowCs c.owners++[.int .i64 n]:=by simp [rowCs,Enc.enc]
  have:=DeepV.ref_row (S:=s++(A :: B :: (J'++x :: [.cells (rowCs c.owners++[.int .i64 n])]))) (n:=s.length) (id:=s.length+(J.length+1+2)) (fl:=false) (l:=c.owners++[n]) (by omega) (by rw [layB_get,List.getElem?_append_right (by omega),l1,e];simp) (by rw [e];simp)
  rw [List.length_append] at this
  exact this
 have htw:turnW c 15 at_ n = {c with owners:=c.owners++[n] }:=rfl
 rw [htw]
 have hOc:=hO.cells
 clear htw hJ hkeep ha l2 hOS
 repeat' (first|(with_reducible first|refine uk ?_|refine wk ?_ ?_<;>intro _|(refine dw P11 mixed ?_ ?_ ?_;kernel_rfl;kernel_rfl)|refine And.intro ?_ ?_|refine callE a16 ?_|refine callE har ?_)|simp -implicitDefEqProofs(disch:=first|assumption|omega)[*])
 all_goals exact img_deep (c:={c with owners:=c.owners++[n] }) (hT2 _ _ _) (hO2 _ _ _) (hC2 _ _ _) (rowD _) (rowD _) (rowD _) (rowD _) (rowD _) (rowD _)
def CloM (c:Cor) (j:Nat) (s:List AObj) (v:List Nat) (x:LV) (s':List AObj) (v':List Nat):Prop:=∃ K d cs y xT xO xC,s++K=s'∧RowR (s++K) 1 (selL c j).length cs y (s.length+d)∧((selL c j).length≠0→d<K.length)∧ListsG v v' (selL c j) cs∧(Gro v v' c.threads xT∧Gro v v' c.owners xO∧Gro v v' c.counts xC)∧
 x = .agg [.int .i64 c.now,xT,xO,xC,if j=0 then y else row c.bufs,if j=1 then y else row c.lockq,if j=2 then y else row c.waitq,if j=3 then y else row c.downq,if j=4 then y else row c.sendq,if j=5 then y else row c.recvq]
theorem clone11_l {c:Cor} (hb:CorB c) (hthr:∀ t∈c.threads,ThrB t) {j:Nat} (hj:j≤5) {s:List AObj} {v:List Nat} : aCalls Tryz.prog 34 [.agg [.int .i64 c.now,row c.threads,row c.owners,row c.counts,row c.bufs,row c.lockq,row c.waitq,row c.downq,row c.sendq,row c.recvq]] s v (CloL c j s v):=by
 have hl:=hb.threads
 have ho:=hb.owners
 have hc:=hb.counts
 suffices h:aCalls Tryz.prog 34 [.agg [.int .i64 c.now,row c.threads,row c.owners,row c.counts,row c.bufs,row c.lockq,row c.waitq,row c.downq,row c.sendq,row c.recvq]] s v (CloM c j s v) by
  refine aCalls_weak (aCalls_mono h ?_)
  rintro x s' v' ⟨K,d,cs,y,xT,xO,xC,rfl,hR,hd,hG,⟨g1,g2,g3⟩,rfl⟩
  exact⟨selX c j y,_,Weak.agg ⟨Weak.refl _,g1.weak,g2.weak,g3.weak,Weak.refl _,Weak.refl _,Weak.refl _,Weak.refl _,Weak.refl _,Weak.refl _,trivial⟩,WeakS.refl _,K,d,cs,y,rfl,hR,hd,hG,rfl⟩
 have hb1:=lists_p hb.bufs.big
 have hb2:=lists_p hb.lockq.big
 have hb3:=lists_p hb.waitq.big
 have hb4:=lists_p hb.downq.big
 have hb5:=lists_p hb.sendq.big
 have hb6:=lists_p hb.recvq.big
 have c1:=fun s v=>lists_o hb.bufs.big.1 hb.bufs.big.2 (s:=s) (v:=v)
 have c2:=fun s v=>lists_o hb.lockq.big.1 hb.lockq.big.2 (s:=s) (v:=v)
 have c3:=fun s v=>lists_o hb.waitq.big.1 hb.waitq.big.2 (s:=s) (v:=v)
 have c4:=fun s v=>lists_o hb.downq.big.1 hb.downq.big.2 (s:=s) (v:=v)
 have c5:=fun s v=>lists_o hb.sendq.big.1 hb.sendq.big.2 (s:=s) (v:=v)
 have c6:=fun s v=>lists_o hb.recvq.big.1 hb.recvq.big.2 (s:=s) (v:=v)
 refine ac0 Tryz.func34 Tryz.ntmps34 ?_
 have hrs:Tryz.f34.results = #[.cell 2 29]:=rfl
 repeat' (first|(with_reducible first|refine uk ?_|refine wk ?_ ?_<;>intro _)|simp -implicitDefEqProofs(disch:=first|assumption|omega)[*])
 refine aW_for (β:=LV × List Nat) false c.threads.length (fun k q=>GroE v q.2 (c.threads.take k) q.1) (fun k q=>[(3,q.1),(4,.int .i64 k),(7,.any),(8,.any),(9,.any),(10,.any),(11,.any),(14,.any),(15,.any),(16,.any),(17,.any),(18,.any),(19,.any),(20,.any),(21,.any),(22,.any),(12,.any),(13,.any)]) (fun _ _=>s++[AObj.cells [.int .i64 c.now,row c.threads,row c.owners,row c.counts,row c.bufs,row c.lockq,row c.waitq,row c.downq,row c.sendq,row c.recvq],AObj.cells [.int .i64 0,.nils,.nils,.nils,.nils,.nils,.nils,.nils,.nils,.nils]]) (fun _ q=>q.2) ?_ ?_
 ·exact⟨(.nils,v),GroE.nil _,fz0,rfl,rfl⟩
 rintro k ⟨x,v1⟩ hk hG
 simp only at hG
 by_cases hlt:k<c.threads.length
 ·have hx:=ix_in (l:=c.threads) (i:=(k:Int)) (by omega) (by omega)
  rw [Int.toNat_natCast] at hx
  have hcl:=rclone_p (st:=(nth c.threads k).state) (on:=(nth c.threads k).on) (fr:=(nth c.threads k).frames) (sk:=(nth c.threads k).stack) (co:=(nth c.threads k).code) (hthr _ (nth_mem hlt))
  have hts:=take_succ_nth hlt
  have hlt':(k:Int)<c.threads.length:=by omega
  clear hb1 hb2 hb3 hb4 hb5 hb6 c1 c2 c3 c4 c5 c6
  repeat' (first|(with_reducible first|refine uk ?_|refine wk ?_ ?_<;>intro _|refine callC hcl (fun v2 hv2=>?_))|simp -implicitDefEqProofs(disch:=first|assumption|omega)[*])
  have hG2:GroE v v2 (c.threads.take k) x:=GroC.mono hG hv2
  obtain⟨x2,v3,g2,_,gb⟩:=hG2.push (P:=Tryz.prog) (t:=27) (t2:=27) (sz:=5) (by_:=72) (by kernel_rfl) rfl (by omega) (nth c.threads k) (by simp;omega)
  rw [← hts] at g2
  simp only [enc_thr] at gb
  have hc2:=g2.gro.cells
  repeat' (first|(with_reducible first|refine uk ?_|refine wk ?_ ?_<;>intro _)|simp -implicitDefEqProofs(disch:=first|assumption|omega)[*])
  exact⟨hlt,(x2,v3),g2,fz,rfl,rfl⟩
 ·have hke:k=c.threads.length:=by omega
  subst hke
  rw [List.take_of_length_le (Nat.le_refl _)] at hG
  obtain⟨xO,v2,gO,_,aO⟩:=(Gro.nil v1 (α:=Int)).appr (P:=Tryz.prog) (t:=23) (t2:=23) (by_:=8) (by kernel_rfl) (by omega) c.owners (by simp;omega)
  obtain⟨xC,v3,gC,_,aC⟩:=(Gro.nil v2 (α:=Int)).appr (P:=Tryz.prog) (t:=23) (t2:=23) (by_:=8) (by kernel_rfl) (by omega) c.counts (by simp;omega)
  simp only [List.nil_append] at gO gC
  have p1:v <+: v1:=hG.1
  have p2:v1 <+: v2:=gO.pre
  have p3:v2 <+: v3:=gC.pre
  have T3:Gro v v3 c.threads x:=hG.gro.mono (p2.trans p3)
  have O3:Gro v v3 c.owners xO:=(gO.mono p3).back p1
  have C3:Gro v v3 c.counts xC:=gC.back (p1.trans p2)
  have qT:=T3.cells
  have qO:=O3.cells
  have qC:=C3.cells
  have hjj:j=0∨j=1∨j=2∨j=3∨j=4∨j=5:=by omega
  clear gO gC hG
  rcases hjj with rfl | rfl | rfl | rfl | rfl | rfl
  ·repeat' (first|(with_reducible first|refine uk ?_|refine wk ?_ ?_<;>intro _|refine callRows (c1 _ _) (fun y J d cs w0 qc r e f g=>?_)|refine callC hb2 (fun w2 hw2=>?_)|refine callC hb3 (fun w3 hw3=>?_)|refine callC hb4 (fun w4 hw4=>?_)|refine callC hb5 (fun w5 hw5=>?_)|refine callC hb6 (fun w6 hw6=>?_))|simp -implicitDefEqProofs(disch:=first|assumption|omega)[*])
   have r':=r.two
   have p4:=p1.trans (p2.trans p3)
   have p5:=g.pre.trans (hw2.trans (hw3.trans (hw4.trans (hw5.trans (hw6)))))
   exact⟨_ :: _ :: J,d+2,cs,y,x,xO,xC,rfl,r' _ _,(fun h=>by have:=f h;simp;omega),ListsG.back (g.mono (hw2.trans (hw3.trans (hw4.trans (hw5.trans (hw6)))))) p4,⟨T3.mono p5,O3.mono p5,C3.mono p5⟩,rfl⟩
  ·repeat' (first|(with_reducible first|refine uk ?_|refine wk ?_ ?_<;>intro _|refine callC hb1 (fun w1 hw1=>?_)|refine callRows (c2 _ _) (fun y J d cs w0 qc r e f g=>?_)|refine callC hb3 (fun w3 hw3=>?_)|refine callC hb4 (fun w4 hw4=>?_)|refine callC hb5 (fun w5 hw5=>?_)|refine callC hb6 (fun w6 hw6=>?_))|simp -implicitDefEqProofs(disch:=first|assumption|omega)[*])
   have r':=r.two
   have p4:=p1.trans (p2.trans (p3.trans hw1))
   have p5:=(hw1).trans (g.pre.trans (hw3.trans (hw4.trans (hw5.trans (hw6)))))
   exact⟨_ :: _ :: J,d+2,cs,y,x,xO,xC,rfl,r' _ _,(fun h=>by have:=f h;simp;omega),ListsG.back (g.mono (hw3.trans (hw4.trans (hw5.trans (hw6))))) p4,⟨T3.mono p5,O3.mono p5,C3.mono p5⟩,rfl⟩
  ·repeat' (first|(with_reducible first|refine uk ?_|refine wk ?_ ?_<;>intro _|refine callC hb1 (fun w1 hw1=>?_)|refine callC hb2 (fun w2 hw2=>?_)|refine callRows (c3 _ _) (fun y J d cs w0 qc r e f g=>?_)|refine callC hb4 (fun w4 hw4=>?_)|refine callC hb5 (fun w5 hw5=>?_)|refine callC hb6 (fun w6 hw6=>?_))|simp -implicitDefEqProofs(disch:=first|assumption|omega)[*])
   have r':=r.two
   have p4:=p1.trans (p2.trans (p3.trans (hw1.trans (hw2))))
   have p5:=(hw1.trans (hw2)).trans (g.pre.trans (hw4.trans (hw5.trans (hw6))))
   exact⟨_ :: _ :: J,d+2,cs,y,x,xO,xC,rfl,r' _ _,(fun h=>by have:=f h;simp;omega),ListsG.back (g.mono (hw4.trans (hw5.trans (hw6)))) p4,⟨T3.mono p5,O3.mono p5,C3.mono p5⟩,rfl⟩
  ·repeat' (first|(with_reducible first|refine uk ?_|refine wk ?_ ?_<;>intro _|refine callC hb1 (fun w1 hw1=>?_)|refine callC hb2 (fun w2 hw2=>?_)|refine callC hb3 (fun w3 hw3=>?_)|refine callRows (c4 _ _) (fun y J d cs w0 qc r e f g=>?_)|refine callC hb5 (fun w5 hw5=>?_)|refine callC hb6 (fun w6 hw6=>?_))|simp -implicitDefEqProofs(disch:=first|assumption|omega)[*])
   have r':=r.two
   have p4:=p1.trans (p2.trans (p3.trans (hw1.trans (hw2.trans (hw3)))))
   have p5:=(hw1.trans (hw2.trans (hw3))).trans (g.pre.trans (hw5.trans (hw6)))
   exact⟨_ :: _ :: J,d+2,cs,y,x,xO,xC,rfl,r' _ _,(fun h=>by have:=f h;simp;omega),ListsG.back (g.mono (hw5.trans (hw6))) p4,⟨T3.mono p5,O3.mono p5,C3.mono p5⟩,rfl⟩
  ·repeat' (first|(with_reducible first|refine uk ?_|refine wk ?_ ?_<;>intro _|refine callC hb1 (fun w1 hw1=>?_)|refine callC hb2 (fun w2 hw2=>?_)|refine callC hb3 (fun w3 hw3=>?_)|refine callC hb4 (fun w4 hw4=>?_)|refine callRows (c5 _ _) (fun y J d cs w0 qc r e f g=>?_)|refine callC hb6 (fun w6 hw6=>?_))|simp -implicitDefEqProofs(disch:=first|assumption|omega)[*])
   have r':=r.two
   have p4:=p1.trans (p2.trans (p3.trans (hw1.trans (hw2.trans (hw3.trans (hw4))))))
   have p5:=(hw1.trans (hw2.trans (hw3.trans (hw4)))).trans (g.pre.trans (hw6))
   exact⟨_ :: _ :: J,d+2,cs,y,x,xO,xC,rfl,r' _ _,(fun h=>by have:=f h;simp;omega),ListsG.back (g.mono (hw6)) p4,⟨T3.mono p5,O3.mono p5,C3.mono p5⟩,rfl⟩
  ·repeat' (first|(with_reducible first|refine uk ?_|refine wk ?_ ?_<;>intro _|refine callC hb1 (fun w1 hw1=>?_)|refine callC hb2 (fun w2 hw2=>?_)|refine callC hb3 (fun w3 hw3=>?_)|refine callC hb4 (fun w4 hw4=>?_)|refine callC hb5 (fun w5 hw5=>?_)|refine callRows (c6 _ _) (fun y J d cs w0 qc r e f g=>?_))|simp -implicitDefEqProofs(disch:=first|assumption|omega)[*])
   have r':=r.two
   have p4:=p1.trans (p2.trans (p3.trans (hw1.trans (hw2.trans (hw3.trans (hw4.trans (hw5)))))))
   have p5:=(hw1.trans (hw2.trans (hw3.trans (hw4.trans (hw5))))).trans (g.pre)
   exact⟨_ :: _ :: J,d+2,cs,y,x,xO,xC,rfl,r' _ _,(fun h=>by have:=f h;simp;omega),ListsG.back (g) p4,⟨T3.mono p5,O3.mono p5,C3.mono p5⟩,rfl⟩
set_option maxHeartbeats 8000000 in
theorem turnD_p {ver ep:Int} {p:Prog} {c:Cor} {what at_ n w:Int} {k j:Nat} (hs:SizeC c k) (hk:k≤2) (h1:I64 what) (h2:I64 at_) (hwe:around what 16=w) (hw:(w=13∧j=0)∨(w=8∧j=1)∨(w=9∧j=2)∨(w=10∧j=3)∨(w=11∧j=4)∨(w=12∧j=5)) :
  PureC Tryz.prog 11 [.agg [.int .i64 ver,.int .i64 ep,row p.funcs,.int .i64 p.mutexes,row p.conds,row p.semas,row p.chans,row p.choices,.int .i64 p.threads,.int .i64 c.now,row c.threads,row c.owners,row c.counts,row c.bufs,row c.lockq,row c.waitq,row c.downq,row c.sendq,row c.recvq],.int .i64 what,.int .i64 at_,.int .i64 n] (.agg (turnC ⟨ver,ep,p,c⟩ what at_ n).lv):=by
 have hb:=hs.corB hk
 have hthr:=hs.thrB hk
 have hn:=hs.thr
 have hsz:=hs.sel j
 have a16:=around_p (n:=what) (m:=16) h1 (by omega)
 have htw:turnC ⟨ver,ep,p,c⟩ what at_ n=⟨ver,ep,p,putL c j (addRow (selL c j) at_ (if w=11 then [n,n] else [n]))⟩:=by
  unfold turnC
  rw [hwe]
  rcases hw with ⟨rfl,rfl⟩ | ⟨rfl,rfl⟩ | ⟨rfl,rfl⟩ | ⟨rfl,rfl⟩ | ⟨rfl,rfl⟩ | ⟨rfl,rfl⟩<;>rfl
 rw [htw]
 rw [hwe] at a16
 clear hwe htw
 have hat:=around_in (n:=at_) (m:=(c.threads.length:Int)) (by omega)
 have har:=around_p (n:=at_) (m:=(c.threads.length:Int)) h2 (by omega)
 generalize around at_ (c.threads.length:Int)=i at *
 have hj5:j≤5:=by omega
 intro s v
 refine aCalls_deep ?_
 refine ac0 Tryz.func11 Tryz.ntmps11 ?_
 have hrs:Tryz.f11.results = #[.cell 8 31]:=rfl
 repeat' (first|(with_reducible first|refine uk ?_|refine wk ?_ ?_<;>intro _|(refine dr P11 mixed ?_ ?_ ?_;kernel_rfl;kernel_rfl)|refine And.intro ?_ ?_)|simp -implicitDefEqProofs(disch:=first|assumption|omega)[*])
 refine aCalls_mono (clone11_l hb hthr hj5) ?_
 intro x1 s1 v1 hc1
 obtain⟨K,d,cs,y,rfl,hR,hd,hG,rfl⟩:=hc1.two
 clear hc1 hb hthr hs hn
 have hpre:=hG.pre
 have hcl:=hR.cells
 rcases hR with ⟨e0,e1,rfl⟩ | ⟨e0,q2,rfl,q4,q5⟩
 ·have hL:selL c j=[]:=List.eq_nil_of_length_eq_zero e0
  have e2:addRow (selL c j) at_ (if w=11 then [n,n] else [n])=[]:=by rw [hL];rfl
  rw [e2]
  have hX:∀ A B Y,DeepV (s++(A :: B :: (K++Y))) s.length .nils (row ([]:List (List Int))):=fun A B Y=>.weak _ _ _ (.keep _ rfl) Weak.nilrow
  clear hL e2 e0 hd hG hsz e1
  rcases hw with ⟨rfl,rfl⟩ | ⟨rfl,rfl⟩ | ⟨rfl,rfl⟩ | ⟨rfl,rfl⟩ | ⟨rfl,rfl⟩ | ⟨rfl,rfl⟩
  all_goals
   unfold selX
   repeat' (first|(with_reducible first|refine uk ?_|refine wk ?_ ?_<;>intro _|(refine dr P11 mixed ?_ ?_ ?_;kernel_rfl;kernel_rfl)|refine And.intro ?_ ?_|refine callE a16 ?_|refine callE har ?_)|simp -implicitDefEqProofs(disch:=first|assumption|omega)[*])
   all_goals first|exact img_deep (c:=putL c 0 _) (rowD _) (rowD _) (rowD _) (hX _ _ _) (rowD _) (rowD _) (rowD _) (rowD _) (rowD _)|exact img_deep (c:=putL c 1 _) (rowD _) (rowD _) (rowD _) (rowD _) (hX _ _ _) (rowD _) (rowD _) (rowD _) (rowD _)|exact img_deep (c:=putL c 2 _) (rowD _) (rowD _) (rowD _) (rowD _) (rowD _) (hX _ _ _) (rowD _) (rowD _) (rowD _)|exact img_deep (c:=putL c 3 _) (rowD _) (rowD _) (rowD _) (rowD _) (rowD _) (rowD _) (hX _ _ _) (rowD _) (rowD _)|exact img_deep (c:=putL c 4 _) (rowD _) (rowD _) (rowD _) (rowD _) (rowD _) (rowD _) (rowD _) (hX _ _ _) (rowD _)|exact img_deep (c:=putL c 5 _) (rowD _) (rowD _) (rowD _) (rowD _) (rowD _) (rowD _) (rowD _) (rowD _) (hX _ _ _)
 have hd:=hd e0
 obtain⟨L,hL⟩:∃ L,selL c j=L:=⟨_,rfl⟩
 rw [hL] at e0 q5 hG hsz hcl ⊢
 have am:=around_in (n:=at_) (m:=(L.length:Int)) (by omega)
 have a2:=around_p (n:=at_) (m:=(L.length:Int)) h2 (by omega)
 unfold addRow
 generalize around at_ (L.length:Int)=m at *
 obtain⟨m,rfl⟩:∃ i:Nat,m=i:=⟨m.toNat,by omega⟩
 rw [Int.toNat_natCast]
 have hm:m<L.length:=by omega
 rw [layB_get] at q4
 obtain⟨x,gx1,gx2⟩:=hG.at_ m hm
 have hlb:=hsz.2 _ (nth_mem hm)
 have hxc:=gx2.gro.cells
 obtain⟨x2,v2,gy,_,ha⟩:=gx2.push (P:=Tryz.prog) (t:=23) (t2:=23) (sz:=1) (by_:=8) (by kernel_rfl) rfl (by omega) n (by omega)
 obtain⟨x3,v3,gz,_,hz⟩:=gy.push (P:=Tryz.prog) (t:=23) (t2:=23) (sz:=1) (by_:=8) (by kernel_rfl) rfl (by omega) n (by simp;omega)
 simp only [enc_int] at ha hz
 have hyc:=gy.gro.cells
 have hzc:=gz.gro.cells
 have g1:∀ Y,(K++Y)[d]? = some (.cells cs):=fun Y=>by rw [List.getElem?_append_left hd];exact q4
 have g2:∀ Y o,(K++Y).set d o=K.set d o++Y:=fun Y o=>by rw [List.set_append_left _ _ hd]
 have g3:∀ X x o,(K.set d o++x :: X)[K.length]? = some x:=fun X x o=>by rw [List.getElem?_append_right (by simp)];simp
 have g3':∀ X x,(K++x :: X)[K.length]? = some x:=fun X x=>by rw [List.getElem?_append_right (by simp)];simp
 have g8:∀ Y o,(K.set d o++Y)[d]? = some o:=fun Y o=>by rw [List.getElem?_append_left (by simpa using hd),List.getElem?_set_self hd]
 have g9:∀ Y o o',(K.set d o++Y).set d o'=K.set d o'++Y:=fun Y o o'=>by rw [List.set_append_left _ _ (by simpa using hd),List.set_set]
 have g4:m+1≤cs.length:=by omega
 have g5:m≤cs.length:=by omega
 have g7:m+1≤L.length:=by omega
 have g6:(m:Int)<L.length:=by omega
 have e0':(0:Int)<L.length:=by omega
 have e0'':0<L.length:=by omega
 have g10:(cs.set m x2)[m]? = some x2:=List.getElem?_set_self (by omega)
 have hX0:∀ A B Y z l,Weak z (row l)→z.under 0=true→DeepV (s++(A :: B :: (K.set d (.cells (cs.set m z))++Y))) s.length (.ref 1 (s.length+(d+2)) 0 L.length false) (row (L.set m l)):=fun A B Y z l hz hu=>by
  have hw:=hG.weak.put (k:=m) hz hu
  have hr:RowR (s++(A :: B :: (K.set d (.cells (cs.set m z))++Y))) 1 (L.set m l).length (cs.set m z) (.ref 1 (s.length+(d+2)) 0 L.length false) (s.length+(d+2)):=
   .inr ⟨by simpa using e0,by intro e;have h:=congrArg List.length e;rw [List.length_set,List.length_nil] at h;omega,by simp,by rw [layB_get];exact g8 Y _,by simp;omega⟩
  exact RowR.deep (α:=List Int) hr (by omega) hw.deep
 by_cases h11:w=11
 ·obtain⟨rfl,rfl⟩:w=11∧j=4:=by omega
  have hX:∀ A B Y,DeepV (s++(A :: B :: (K.set d (.cells (cs.set m x3))++Y))) s.length (.ref 1 (s.length+(d+2)) 0 L.length false) (row (L.set m (nth L m++[n,n]))):=fun A B Y=>by
   have:=hX0 A B Y x3 (nth L m++[n]++[n]) gz.gro.weak (gz.gro.under 0)
   simpa using this
  have hp:=gz.1
  rw [if_pos rfl]
  clear hG gx2 gy gz hX0 hsz hL hd q4 q2 hw
  unfold selX
  repeat' (first|(with_reducible first|refine uk ?_|refine wk ?_ ?_<;>intro _|(refine dr P11 mixed ?_ ?_ ?_;kernel_rfl;kernel_rfl)|refine And.intro ?_ ?_|refine callE a16 ?_|refine callE har ?_|refine callE a2 ?_)|simp -implicitDefEqProofs(disch:=first|assumption|omega)[*])
  all_goals first|exact hp|(first|exact img_deep (c:=putL c 0 _) (rowD _) (rowD _) (rowD _) (hX _ _ _) (rowD _) (rowD _) (rowD _) (rowD _) (rowD _)|exact img_deep (c:=putL c 1 _) (rowD _) (rowD _) (rowD _) (rowD _) (hX _ _ _) (rowD _) (rowD _) (rowD _) (rowD _)|exact img_deep (c:=putL c 2 _) (rowD _) (rowD _) (rowD _) (rowD _) (rowD _) (hX _ _ _) (rowD _) (rowD _) (rowD _)|exact img_deep (c:=putL c 3 _) (rowD _) (rowD _) (rowD _) (rowD _) (rowD _) (rowD _) (hX _ _ _) (rowD _) (rowD _)|exact img_deep (c:=putL c 4 _) (rowD _) (rowD _) (rowD _) (rowD _) (rowD _) (rowD _) (rowD _) (hX _ _ _) (rowD _)|exact img_deep (c:=putL c 5 _) (rowD _) (rowD _) (rowD _) (rowD _) (rowD _) (rowD _) (rowD _) (rowD _) (hX _ _ _))
 ·have hX:∀ A B Y,DeepV (s++(A :: B :: (K.set d (.cells (cs.set m x2))++Y))) s.length (.ref 1 (s.length+(d+2)) 0 L.length false) (row (L.set m (nth L m++[n]))):=fun A B Y=>hX0 A B Y x2 _ gy.gro.weak (gy.gro.under 0)
  have hp:=gy.1
  rw [if_neg h11]
  clear hG gx2 gy gz hX0 hsz hL hd q4 q2 hz hzc
  rcases hw with ⟨rfl,rfl⟩ | ⟨rfl,rfl⟩ | ⟨rfl,rfl⟩ | ⟨rfl,rfl⟩ | ⟨rfl,rfl⟩ | ⟨rfl,rfl⟩
  all_goals first|(exact absurd rfl h11)|skip
  all_goals
   unfold selX
   repeat' (first|(with_reducible first|refine uk ?_|refine wk ?_ ?_<;>intro _|(refine dr P11 mixed ?_ ?_ ?_;kernel_rfl;kernel_rfl)|refine And.intro ?_ ?_|refine callE a16 ?_|refine callE har ?_|refine callE a2 ?_)|simp -implicitDefEqProofs(disch:=first|assumption|omega)[*])
   all_goals first|exact hp|(first|exact img_deep (c:=putL c 0 _) (rowD _) (rowD _) (rowD _) (hX _ _ _) (rowD _) (rowD _) (rowD _) (rowD _) (rowD _)|exact img_deep (c:=putL c 1 _) (rowD _) (rowD _) (rowD _) (rowD _) (hX _ _ _) (rowD _) (rowD _) (rowD _) (rowD _)|exact img_deep (c:=putL c 2 _) (rowD _) (rowD _) (rowD _) (rowD _) (rowD _) (hX _ _ _) (rowD _) (rowD _) (rowD _)|exact img_deep (c:=putL c 3 _) (rowD _) (rowD _) (rowD _) (rowD _) (rowD _) (rowD _) (hX _ _ _) (rowD _) (rowD _)|exact img_deep (c:=putL c 4 _) (rowD _) (rowD _) (rowD _) (rowD _) (rowD _) (rowD _) (rowD _) (hX _ _ _) (rowD _)|exact img_deep (c:=putL c 5 _) (rowD _) (rowD _) (rowD _) (rowD _) (rowD _) (rowD _) (rowD _) (rowD _) (hX _ _ _))
def ClT (c:Cor) (t:Nat) (s:List AObj) (v:List Nat) (k:Nat) (q:List Nat × List AObj × Nat × LV):Prop:=
 v <+: q.1∧∃ xF xS,RowR (s++(AObj.cells [.int .i64 c.now,row c.threads,row c.owners,row c.counts,row c.bufs,row c.lockq,row c.waitq,row c.downq,row c.sendq,row c.recvq] :: AObj.cells [.int .i64 0,.nils,.nils,.nils,.nils,.nils,.nils,.nils,.nils,.nils] :: q.2.1)) 5 k (csT (c.threads.take k) t xF xS) q.2.2.2 (s.length+(q.2.2.1+2))∧(k≠0→q.2.2.1<q.2.1.length)∧(t<k→∃ ids r iF iS,ThrA (s++(AObj.cells [.int .i64 c.now,row c.threads,row c.owners,row c.counts,row c.bufs,row c.lockq,row c.waitq,row c.downq,row c.sendq,row c.recvq] :: AObj.cells [.int .i64 0,.nils,.nils,.nils,.nils,.nils,.nils,.nils,.nils,.nils] :: q.2.1)) (s.length+2) (s.length+(q.2.2.1+2)) (nth c.threads t) xF xS ids r iF iS)
set_option maxHeartbeats 8000000 in
theorem clone11_t {c:Cor} (hb:CorB c) (hthr:∀ t∈c.threads,ThrB t) {t:Nat} (ht:t<c.threads.length) {s:List AObj} {v:List Nat} : aCalls Tryz.prog 34 [.agg [.int .i64 c.now,row c.threads,row c.owners,row c.counts,row c.bufs,row c.lockq,row c.waitq,row c.downq,row c.sendq,row c.recvq]] s v (CloT c t s v):=by
 have hl:=hb.threads
 have hb1:=lists_p hb.bufs.big
 have hb2:=lists_p hb.lockq.big
 have hb3:=lists_p hb.waitq.big
 have hb4:=lists_p hb.downq.big
 have hb5:=lists_p hb.sendq.big
 have hb6:=lists_p hb.recvq.big
 refine ac1 Tryz.func34 Tryz.ntmps34 ?_
 have hrs:Tryz.f34.results = #[.cell 2 29]:=rfl
 repeat' (first|(with_reducible first|refine uk ?_|refine wk ?_ ?_<;>intro _)|simp -implicitDefEqProofs(disch:=first|assumption|omega)[*])
 refine aW_for (β:=List Nat × List AObj × Nat × LV) true c.threads.length (ClT c t s v) (fun k q=>[(3,q.2.2.2),(4,.int .i64 k),(7,.any),(8,.any),(9,.any),(10,.any),(11,.any),(14,.any),(15,.any),(16,.any),(17,.any),(18,.any),(19,.any),(20,.any),(21,.any),(22,.any),(12,.any),(13,.any)]) (fun _ q=>s++(AObj.cells [.int .i64 c.now,row c.threads,row c.owners,row c.counts,row c.bufs,row c.lockq,row c.waitq,row c.downq,row c.sendq,row c.recvq] :: AObj.cells [.int .i64 0,.nils,.nils,.nils,.nils,.nils,.nils,.nils,.nils,.nils] :: q.2.1)) (fun _ q=>q.1) ?_ ?_
 ·exact⟨(v,[],0,.nils),⟨List.prefix_refl _,.nils,.nils,.inl ⟨rfl,by simp [csT],rfl⟩,by simp,by simp⟩,fz0,rfl,rfl⟩
 rintro k ⟨v1,J,d,x⟩ hk ⟨hv1,xF,xS,hR,hd,hA⟩
 simp only at hv1 hR hd hA
 have hxc:=hR.cells
 by_cases hlt:k<c.threads.length
 ·have hx:=ix_in (l:=c.threads) (i:=(k:Int)) (by omega) (by omega)
  rw [Int.toNat_natCast] at hx
  have htk:=take_succ_nth hlt
  have htl:(c.threads.take k).length=k:=by simp;omega
  have hlt':(k:Int)<c.threads.length:=by omega
  clear hb1 hb2 hb3 hb4 hb5 hb6
  by_cases hkt:k=t
  ·subst hkt
   have hcl:=fun s v=>rclone_o (st:=(nth c.threads k).state) (on:=(nth c.threads k).on) (fr:=(nth c.threads k).frames) (sk:=(nth c.threads k).stack) (co:=(nth c.threads k).code) (hthr _ (nth_mem hlt)) (s:=s) (v:=v)
   rw [csT_lo (by omega)] at hR
   repeat' (first|(with_reducible first|refine uk ?_|refine wk ?_ ?_<;>intro _|refine callT (hcl _ _) (fun Jt ids r yF yS dF dS qF qS hF hS hi1 hi2=>?_))|simp -implicitDefEqProofs(disch:=first|assumption|omega)[*])
   have e1:(s++(AObj.cells [.int .i64 c.now,row c.threads,row c.owners,row c.counts,row c.bufs,row c.lockq,row c.waitq,row c.downq,row c.sendq,row c.recvq] :: AObj.cells [.int .i64 0,.nils,.nils,.nils,.nils,.nils,.nils,.nils,.nils,.nils] :: J)).length=s.length+(J.length+2):=by simp
   rw [e1] at hF hS hi1
   have eS:s++(AObj.cells [.int .i64 c.now,row c.threads,row c.owners,row c.counts,row c.bufs,row c.lockq,row c.waitq,row c.downq,row c.sendq,row c.recvq] :: AObj.cells [.int .i64 0,.nils,.nils,.nils,.nils,.nils,.nils,.nils,.nils,.nils] :: J)++Jt=s++(AObj.cells [.int .i64 c.now,row c.threads,row c.owners,row c.counts,row c.bufs,row c.lockq,row c.waitq,row c.downq,row c.sendq,row c.recvq] :: AObj.cells [.int .i64 0,.nils,.nils,.nils,.nils,.nils,.nils,.nils,.nils,.nils] :: (J++Jt)):=by simp
   rw [eS] at hF hS
   have hR1:RowR (s++(AObj.cells [.int .i64 c.now,row c.threads,row c.owners,row c.counts,row c.bufs,row c.lockq,row c.waitq,row c.downq,row c.sendq,row c.recvq] :: AObj.cells [.int .i64 0,.nils,.nils,.nils,.nils,.nils,.nils,.nils,.nils,.nils] :: (J++Jt))) 5 k (rowCs (c.threads.take k)) x (s.length+(d+2)):=hR.keep fun h0=>by rw [layB_get,layB_get,List.getElem?_append_left (hd h0)]
   obtain⟨J2,ha,hR2,hJ2,hK2⟩:=thr_step2 (P:=Tryz.prog) (t:=27) (t2:=27) (by_:=72) (by kernel_rfl) (by omega) hR1 (fun h0=>by have:=hd h0;simp;omega) (ds:=[.int .i64 (nth c.threads k).state,.int .i64 (nth c.threads k).on,yF,yS,.int .i64 (nth c.threads k).code]) rfl (by omega)
   have ha':=ha (.ref 5 (s.length+((J++Jt).length+2)) 0 1 true) (by simp [aCells])
   clear ha
   have hln:(J++Jt).length=J.length+Jt.length:=by simp
   rw [hln] at ha' hR2 hJ2
   simp only [List.append_assoc] at ha'
   repeat' (first|(with_reducible first|refine uk ?_|refine wk ?_ ?_<;>intro _)|simp -implicitDefEqProofs(disch:=first|assumption|omega)[*])
   have hbase:ThrA (s++(AObj.cells [.int .i64 c.now,row c.threads,row c.owners,row c.counts,row c.bufs,row c.lockq,row c.waitq,row c.downq,row c.sendq,row c.recvq] :: AObj.cells [.int .i64 0,.nils,.nils,.nils,.nils,.nils,.nils,.nils,.nils,.nils] :: (J++Jt))) (s.length+(J.length+2)) (s.length+(J.length+Jt.length+2)) (nth c.threads k) yF yS ids r (s.length+(J.length+2)+dF) (s.length+(J.length+2)+dS):=by
    have el:(s++(AObj.cells [.int .i64 c.now,row c.threads,row c.owners,row c.counts,row c.bufs,row c.lockq,row c.waitq,row c.downq,row c.sendq,row c.recvq] :: AObj.cells [.int .i64 0,.nils,.nils,.nils,.nils,.nils,.nils,.nils,.nils,.nils] :: (J++Jt))).length=s.length+(J.length+Jt.length+2):=by simp
    refine⟨hF.frames,hF.fr,hS,fun id hid=>?_,⟨by omega,fun h0=>?_⟩,⟨by omega,fun h0=>?_⟩,fun a b=>by have:=hi2 a b;omega⟩
    ·have q:=hF.ids id hid
     exact⟨q.1,by omega,q.2.2,fun h0=>by have:=hi1 h0 id hid;omega⟩
    ·have:=hF.at_.2 h0;omega
    ·have:=hS.lt h0;omega
   refine⟨hlt,(v1,J2,J.length+Jt.length+1,_),⟨hv1,yF,yS,by rw [htk,csT_at htl];exact hR2,fun _=>by show J.length+Jt.length+1<J2.length;omega,fun _=>⟨ids,r,_,_,hbase.keep (fun i h1 h2=>?_) (by omega) (by simp only;omega)⟩⟩,fz,by simp,rfl⟩
   obtain⟨q,rfl⟩:∃ q,i=s.length+(q+2):=⟨i - (s.length+2),by omega⟩
   rw [layB_get,layB_get]
   exact hK2 q (fun h0=>by have:=hd h0;omega) (by rw [hln];omega)
  ·have hcl:=rclone_p (st:=(nth c.threads k).state) (on:=(nth c.threads k).on) (fr:=(nth c.threads k).frames) (sk:=(nth c.threads k).stack) (co:=(nth c.threads k).code) (hthr _ (nth_mem hlt))
   obtain⟨J2,ha,hR2,hJ2,hK2⟩:=thr_step2 (P:=Tryz.prog) (t:=27) (t2:=27) (by_:=72) (by kernel_rfl) (by omega) hR hd (ds:=(nth c.threads k).lv) rfl (by omega)
   have ha':=ha (.ref 5 (s.length+(J.length+2)) 0 1 true) (by simp [aCells,Thr.lv])
   clear ha
   simp only [Thr.lv] at ha'
   repeat' (first|(with_reducible first|refine uk ?_|refine wk ?_ ?_<;>intro _|refine callC hcl (fun v2 hv2=>?_))|simp -implicitDefEqProofs(disch:=first|assumption|omega)[*])
   have hcs:csT (c.threads.take (k+1)) t xF xS=csT (c.threads.take k) t xF xS++(nth c.threads k).lv:=by
    rw [htk]
    by_cases h:k<t
    ·rw [csT_lo (by simp;omega),csT_lo (by omega),rowCs_snoc]
    ·rw [csT_hi (by omega)]
   refine⟨hlt,(v2,J2,J.length+1,_),⟨hv1.trans hv2,xF,xS,by rw [hcs];exact hR2,fun _=>by show J.length+1<J2.length;omega,fun h=>?_⟩,fz,by simp,rfl⟩
   obtain⟨ids,r,iF,iS,hA⟩:=hA (by omega)
   refine⟨ids,r,iF,iS,hA.keep (fun i h1 h2=>?_) (Nat.le_refl _) (by have:=hd (by omega);simp only;omega)⟩
   obtain⟨q,rfl⟩:∃ q,i=s.length+(q+2):=⟨i - (s.length+2),by omega⟩
   rw [layB_get,layB_get]
   exact hK2 q (fun h0=>by omega) (by have:=hd (by omega);omega)
 ·have:k=c.threads.length:=by omega
  subst this
  rw [List.take_of_length_le (Nat.le_refl _)] at hR
  obtain⟨ids,r,iF,iS,hA⟩:=hA ht
  obtain⟨xO,JO,haO,hxO,hO⟩:=own_nil_r (P:=Tryz.prog) (t:=23) (t2:=23) (by kernel_rfl) (l:=c.owners) (by have:=hb.owners;omega) s J (AObj.cells [.int .i64 c.now,x,row c.owners,row c.counts,row c.bufs,row c.lockq,row c.waitq,row c.downq,row c.sendq,row c.recvq]) (AObj.cells [.int .i64 0,.nils,.nils,.nils,.nils,.nils,.nils,.nils,.nils,.nils])
  obtain⟨xC,JC,haC,hxC,hC⟩:=own_nil_r (P:=Tryz.prog) (t:=23) (t2:=23) (by kernel_rfl) (l:=c.counts) (by have:=hb.counts;omega) s (J++JO) (AObj.cells [.int .i64 c.now,x,xO,row c.counts,row c.bufs,row c.lockq,row c.waitq,row c.downq,row c.sendq,row c.recvq]) (AObj.cells [.int .i64 0,.nils,.nils,.nils,.nils,.nils,.nils,.nils,.nils,.nils])
  simp only [List.append_assoc] at haC
  have hn0:c.threads.length≠0:=by omega
  have hd':=hd hn0
  obtain⟨_,hrx,rfl,hJ,_⟩:=hR.resolve_left fun h=>hn0 h.1
  rw [layB_get] at hJ
  repeat' (first|(with_reducible first|refine uk ?_|refine wk ?_ ?_<;>intro _|refine callC hb1 (fun v2 hv2=>?_)|refine callC hb2 (fun v3 hv3=>?_)|refine callC hb3 (fun v4 hv4=>?_)|refine callC hb4 (fun v5 hv5=>?_)|refine callC hb5 (fun v6 hv6=>?_)|refine callC hb6 (fun v7 hv7=>?_))|simp -implicitDefEqProofs(disch:=first|assumption|omega)[*])
  refine⟨_ :: _ :: (J++(JO++JC)),d+2,xO,xC,J.length+2,(J++JO).length+2,xF,xS,ids,r,iF,iS,rfl,?_,hA.keep (fun i h1 h2=>?_) (by omega) (Nat.le_refl _),hO _ _ JC,?_,by omega,by simp;omega,hv1.trans (hv2.trans (hv3.trans (hv4.trans (hv5.trans (hv6.trans hv7))))),rfl⟩
  ·show (J++(JO++JC))[d]? = _
   rw [List.getElem?_append_left hd'];exact hJ
  ·obtain⟨q,rfl⟩:∃ q,i=s.length+(q+2):=⟨i - (s.length+2),by omega⟩
   rw [layB_get,layB_get,List.getElem?_append_left (by omega)]
  ·have:=hC (AObj.cells [.int .i64 c.now,.ref 5 (s.length+(d+2)) 0 c.threads.length false,xO,xC,row c.bufs,row c.lockq,row c.waitq,row c.downq,row c.sendq,row c.recvq]) (AObj.cells [.int .i64 c.now,.ref 5 (s.length+(d+2)) 0 c.threads.length false,xO,xC,row c.bufs,row c.lockq,row c.waitq,row c.downq,row c.sendq,row c.recvq]) []
   simpa using this
end Go.Hb
end
