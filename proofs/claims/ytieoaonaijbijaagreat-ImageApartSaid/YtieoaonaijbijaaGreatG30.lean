/-
  A layer for reasoning about the program's calls, and contracts of its functions. CONDITIONS: none; each theorem bears its own.
-/
import Derived.Test.YtieoaonaijbijaaGreatG28
import Derived.Test.YtieoaonaijbijaaGreatG29
import Derived.Test.YtieoaonaijbijaaGreatG27
import Derived.Test.YtieoaonaijbijaaGreatG13
import Derived.Test.YtieoaonaijbijaaGreatG18
set_option linter.unusedVariables false
set_option linter.unusedSimpArgs false
section
namespace Go.Hb
open Go Go.Proofs Go.RowKit
set_option maxRecDepth 100000
set_option maxHeartbeats 800000
attribute [-simp] aC aL aOper aThen aInBlock aIf aPlan aAppend aLen aIndexAddr aSlice aCells aBounds lBr aq initT aev aAppendOwn aAppendNil aAppendNew aAppendRef LV.cells LV.cellsOk getElem?_pos getElem?_neg
set_option maxHeartbeats 8000000 in
theorem turnF_p {ver ep:Int} {p:Prog} {c:Cor} {what at_ n w:Int} {k:Nat} (hs:SizeC c k) (hk:k≤2) (h1:I64 what) (h2:I64 at_) (hwe:around what 16=w) (hw:w=4∨w=5) :
  PureC Tryz.prog 11 [.agg [.int .i64 ver,.int .i64 ep,row p.funcs,.int .i64 p.mutexes,row p.conds,row p.semas,row p.chans,row p.choices,.int .i64 p.threads,.int .i64 c.now,row c.threads,row c.owners,row c.counts,row c.bufs,row c.lockq,row c.waitq,row c.downq,row c.sendq,row c.recvq],.int .i64 what,.int .i64 at_,.int .i64 n] (.agg (turnC ⟨ver,ep,p,c⟩ what at_ n).lv):=by
 have hb:=hs.corB hk
 have hthr:=hs.thrB hk
 have hn:=hs.thr
 have hne:c.threads≠[]:=fun e=>by rw [e] at hn;simp at hn
 have a16:=around_p (n:=what) (m:=16) h1 (by omega)
 unfold turnC
 rw [hwe] at a16
 rw [hwe]
 clear hwe
 have hat:=around_in (n:=at_) (m:=(c.threads.length:Int)) (by omega)
 have har:=around_p (n:=at_) (m:=(c.threads.length:Int)) h2 (by omega)
 have htt:∀ f,thrAt c at_ f = {c with threads:=c.threads.set (around at_ (c.threads.length:Int)).toNat (f (nth c.threads (around at_ (c.threads.length:Int)).toNat)) }:=fun _=>rfl
 generalize around at_ (c.threads.length:Int)=j at *
 obtain⟨i,rfl⟩:∃ i:Nat,j=i:=⟨j.toNat,by omega⟩
 rw [Int.toNat_natCast] at htt
 have hi:i<c.threads.length:=by omega
 have htb:=hthr _ (nth_mem hi)
 intro s v
 refine aCalls_deep ?_
 refine ac1 Tryz.func11 Tryz.ntmps11 ?_
 have hrs:Tryz.f11.results = #[.cell 8 31]:=rfl
 repeat' (first|(with_reducible first|refine uk ?_|refine wk ?_ ?_<;>intro _|(refine dw P11 mixed ?_ ?_ ?_;kernel_rfl;kernel_rfl)|refine And.intro ?_ ?_)|simp -implicitDefEqProofs(disch:=first|assumption|omega)[*])
 refine aCalls_mono (clone11_t hb hthr hi) ?_
 intro x1 s1 v1 hc1
 obtain⟨J,d,xO,xC,dO,dC,xF,xS,ids,r,iF,iS,rfl,hJ,hA,hO,hC,nO,nC,hv1,rfl⟩:=hc1.two
 clear hc1 hb hthr hs
 have hd:=(List.getElem?_eq_some_iff.1 hJ).1
 have hcl:=csT_len c.threads i xF xS
 have hcS:(csT c.threads i xF xS)[i*5+3]? = some xS:=by unfold csT;rw [List.getElem?_set_self (by simp [thr5];omega)]
 have hcF:(csT c.threads i xF xS)[i*5+2]? = some xF:=by unfold csT;rw [List.getElem?_set_ne (by omega),List.getElem?_set_self (by simp [thr5];omega)]
 have hcs:∀ y,(csT c.threads i xF xS).set (i*5+3) y=csT c.threads i xF y:=fun y=>by unfold csT;rw [List.set_set]
 have hJX:∀ Y,(J++Y)[d]? = some (.cells (csT c.threads i xF xS)):=fun Y=>by rw [List.getElem?_append_left hd];exact hJ
 have hJl:∀ X x,(J++x :: X)[J.length]? = some x:=fun X x=>by rw [List.getElem?_append_right (by simp)];simp
 have qF:=hA.frames.cells
 have qS:=hA.stack.cells
 have hki:(i:Int)<c.threads.length:=by omega
 obtain⟨f,rfl⟩:∃ f,iF=s.length+(f+2):=⟨iF - (s.length+2),by have:=hA.atF.1;omega⟩
 obtain⟨q,rfl⟩:∃ q,iS=s.length+(q+2):=⟨iS - (s.length+2),by have:=hA.atS.1;omega⟩
 have hT5:∀ (J':List AObj) A B Y y fr sk,J'[d]? = some (.cells (csT c.threads i xF y))→d<J'.length→DeepV (s++(A :: B :: (J'++Y))) s.length xF (row fr)→DeepV (s++(A :: B :: (J'++Y))) s.length y (row sk)→DeepV (s++(A :: B :: (J'++Y))) s.length (.ref 5 (s.length+(d+2)) 0 c.threads.length false) (row (c.threads.set i {nth c.threads i with frames:=fr,stack:=sk })):=fun J' A B Y y fr sk e1 e2 e3 e4=>
  thr_row (by omega) (by rw [layB_get,List.getElem?_append_left e2];exact e1) (csT_len _ _ _ _) hne (by simp) (csT_deep hi e3 e4)
 have hO5:∀ (J':List AObj) A B Y,J'.length=J.length→(∀ e,d<e→J'[e]? = J[e]?)→DeepV (s++(A :: B :: (J'++Y))) s.length xO (row c.owners):=fun J' A B Y e1 e2=>RowR.deep0 (id:=s.length+(dO+2)) (hO.keep fun h0=>by
  have hl:=hO.lt h0
  simp at hl
  rw [layB_get,layB_get,List.getElem?_append_left (by omega),e2 dO nO]) (by omega)
 have hC5:∀ (J':List AObj) A B Y,J'.length=J.length→(∀ e,d<e→J'[e]? = J[e]?)→DeepV (s++(A :: B :: (J'++Y))) s.length xC (row c.counts):=fun J' A B Y e1 e2=>RowR.deep0 (id:=s.length+(dC+2)) (hC.keep fun h0=>by
  have hl:=hC.lt h0
  simp at hl
  rw [layB_get,layB_get,List.getElem?_append_left (by omega),e2 dC nC]) (by omega)
 rcases hw with rfl | rfl
 ·have htw:turnW c 4 at_ n = {c with threads:=c.threads.set i {nth c.threads i with stack:=(nth c.threads i).stack++[n] } }:=htt fun t=>{t with stack:=t.stack++[n] }
  rw [htw]
  clear htw htt
  have hm:(nth c.threads i).stack.length≤18:=htb.2.1
  have hqd:(nth c.threads i).stack.length≠0→q<d:=fun h=>by have:=hA.atS.2 h;omega
  have hOS:∀ A B Y,RowR (s++(A :: B :: (J++Y))) 1 (nth c.threads i).stack.length (rowCs (nth c.threads i).stack) xS (s.length+(q+2)):=fun A B Y=>hA.stack.keep fun h0=>by
   have:=hqd h0
   rw [layB_get,layB_get,List.getElem?_append_left (by omega)]
  obtain⟨J',l1,l2,ha⟩:∃ J':List AObj,J'.length=J.length∧(∀ e,((nth c.threads i).stack.length≠0→e≠q)→J'[e]? = J[e]?)∧∀ A B Y r,aAppendOwn Tryz.prog 23 23 xS (.imm 1 1 [.int .i64 n] r) (s++(A :: B :: (J++Y)))=some (.ref 1 (s.length+(J.length+Y.length+2)) 0 ((nth c.threads i).stack.length+1) false,s++(A :: B :: (J'++(Y++[.cells (rowCs (nth c.threads i).stack++[.int .i64 n])])))):=by
   by_cases e0:(nth c.threads i).stack.length=0
   ·refine⟨J,rfl,fun _ _=>rfl,fun A B Y r=>?_⟩
    rw [own_app (by_:=8) (by kernel_rfl) (by omega) (by omega) (hOS A B Y) rfl (by omega) r,if_pos e0];simp
   ·refine⟨J.set q (.cells []),by simp,fun e he=>List.getElem?_set_ne (Ne.symm (he e0)),fun A B Y r=>?_⟩
    have:=hqd e0
    rw [own_app (by_:=8) (by kernel_rfl) (by omega) (by omega) (hOS A B Y) rfl (by omega) r,if_neg e0,layB_set,List.set_append_left _ _ (by omega)];simp
  have ha2:=fun A B x r=>ha A B [x] r
  simp only [List.length_cons,List.length_nil,List.cons_append,List.nil_append,Nat.zero_add] at ha2
  have hjd:J'[d]? = some (.cells (csT c.threads i xF xS)):=by rw [l2 d (fun h=>by have:=hqd h;omega)];exact hJ
  have g1:∀ X x,(J'++x :: X)[J.length]? = some x:=fun X x=>by rw [← l1,List.getElem?_append_right (by simp)];simp
  have g2:∀ X x o,(J'.set d o++x :: X)[J.length]? = some x:=fun X x o=>by rw [← l1,List.getElem?_append_right (by simp)];simp
  have g3:∀ Y,(J'++Y)[d]? = some (.cells (csT c.threads i xF xS)):=fun Y=>by rw [List.getElem?_append_left (by omega)];exact hjd
  have g4:∀ Y o,(J'++Y).set d o=J'.set d o++Y:=fun Y o=>by rw [List.set_append_left _ _ (by omega)]
  have kp:∀ o e,((nth c.threads i).stack.length≠0→e≠q)→e≠d→(J'.set d o)[e]? = J[e]?:=fun o e h h2=>by rw [List.getElem?_set_ne (Ne.symm h2),l2 e h]
  have g5:i*5+3+1≤(csT c.threads i xF xS).length:=by omega
  have g6:i*5+3≤(csT c.threads i xF xS).length:=by omega
  have g7:i*5+3+1≤c.threads.length*5:=by omega
  have g8:i*5+3≤c.threads.length*5:=by omega
  have hFd:∀ A B Y o,DeepV (s++(A :: B :: (J'.set d o++Y))) s.length xF (row (nth c.threads i).frames):=fun A B Y o=>by
   have hv2:FrmsV (s++(A :: B :: (J'.set d o++Y))) (nth c.threads i).frames ids r:=hA.fr.keep fun id hid=>by
    have a:=hA.ids id hid
    obtain⟨e,rfl⟩:∃ e,id=s.length+(e+2):=⟨id - (s.length+2),by omega⟩
    rw [layB_get,layB_get,List.getElem?_append_left (by simp;omega),kp _ e (fun h h'=>a.2.2.2 h (by omega)) (by omega)]
   exact RowR.deep (α:=Frm) (id:=s.length+(f+2)) (hA.frames.keep fun h0=>by
    have:=hA.atF.2 h0
    rw [layB_get,layB_get,List.getElem?_append_left (by simp;omega),kp _ f (fun h h'=>hA.ne h0 h (by omega)) (by omega)]) (by omega) (hv2.deep fun id hid=>by have:=(hA.ids id hid).1;omega)
  have e:rowCs ((nth c.threads i).stack++[n])=rowCs (nth c.threads i).stack++[.int .i64 n]:=by simp [rowCs,Enc.enc]
  have hSd:∀ A B x o,DeepV (s++(A :: B :: (J'.set d o++x :: [.cells (rowCs (nth c.threads i).stack++[.int .i64 n])]))) s.length (.ref 1 (s.length+(J.length+1+2)) 0 ((nth c.threads i).stack.length+1) false) (row ((nth c.threads i).stack++[n])):=fun A B x o=>by
   have:=DeepV.ref_row (S:=s++(A :: B :: (J'.set d o++x :: [.cells (rowCs (nth c.threads i).stack++[.int .i64 n])]))) (n:=s.length) (id:=s.length+(J.length+1+2)) (fl:=false) (l:=(nth c.threads i).stack++[n]) (by omega) (by rw [layB_get,List.getElem?_append_right (by simp;omega),e];simp [l1]) (by rw [e];simp)
   rw [List.length_append] at this
   exact this
  have hT:∀ A B x,DeepV (s++(A :: B :: (J'.set d (.cells (csT c.threads i xF (.ref 1 (s.length+(J.length+1+2)) 0 ((nth c.threads i).stack.length+1) false)))++x :: [.cells (rowCs (nth c.threads i).stack++[.int .i64 n])]))) s.length (.ref 5 (s.length+(d+2)) 0 c.threads.length false) (row (c.threads.set i {nth c.threads i with stack:=(nth c.threads i).stack++[n] })):=fun A B x=>
   hT5 (J'.set d _) A B _ _ _ _ (List.getElem?_set_self (by omega)) (by simp;omega) (hFd A B _ _) (hSd A B x _)
  have hO6:=fun A B Y o=>hO5 (J'.set d o) A B Y (by simpa using l1) (fun e he=>kp _ e (fun h=>by have:=hqd h;omega) (by omega))
  have hC6:=fun A B Y o=>hC5 (J'.set d o) A B Y (by simpa using l1) (fun e he=>kp _ e (fun h=>by have:=hqd h;omega) (by omega))
  clear hT5 hO5 hC5 hA hO hC hFd hSd hJ hcF kp l2 ha hOS hqd e
  repeat' (first|(with_reducible first|refine uk ?_|refine wk ?_ ?_<;>intro _|(refine dw P11 mixed ?_ ?_ ?_;kernel_rfl;kernel_rfl)|refine And.intro ?_ ?_|refine callE a16 ?_|refine callE har ?_)|simp -implicitDefEqProofs(disch:=first|assumption|omega)[*])
  all_goals exact img_deep (c:={c with threads:=c.threads.set i {nth c.threads i with stack:=(nth c.threads i).stack++[n] } }) (hT _ _ _) (hO6 _ _ _ _) (hC6 _ _ _ _) (rowD _) (rowD _) (rowD _) (rowD _) (rowD _) (rowD _)
 ·have htw:turnW c 5 at_ n = {c with threads:=c.threads.set i (pcTo n (nth c.threads i)) }:=htt (pcTo n)
  rw [htw]
  clear htw htt
  have h3:i*5+2+1≤(csT c.threads i xF xS).length:=by omega
  have h3':i*5+2≤(csT c.threads i xF xS).length:=by omega
  by_cases h0:(nth c.threads i).frames.length=0
  ·obtain⟨_,e1,rfl⟩:(nth c.threads i).frames.length=0∧r=[]∧xF = .nils:=by
    rcases hA.frames with h | h
    ·exact h
    ·exact absurd h0 h.1
   have efr:(nth c.threads i).frames=[]:=List.eq_nil_of_length_eq_zero h0
   have hFd:∀ A B Y,DeepV (s++(A :: B :: (J++Y))) s.length .nils (row ((nth c.threads i).frames.set 0 {nth (nth c.threads i).frames 0 with pc:=n })):=fun A B Y=>by
    rw [efr];exact .weak _ _ _ (.keep _ rfl) Weak.nilrow
   have hSd:∀ A B Y,DeepV (s++(A :: B :: (J++Y))) s.length xS (row (nth c.threads i).stack):=fun A B Y=>RowR.deep0 (id:=s.length+(q+2)) (hA.stack.keep fun h0=>by
    have:=hA.atS.2 h0
    rw [layB_get,layB_get,List.getElem?_append_left (by omega)]) (by omega)
   have hT:∀ A B Y,DeepV (s++(A :: B :: (J++Y))) s.length (.ref 5 (s.length+(d+2)) 0 c.threads.length false) (row (c.threads.set i (pcTo n (nth c.threads i)))):=fun A B Y=>hT5 J A B Y xS _ _ hJ hd (hFd A B Y) (hSd A B Y)
   have hO6:=fun A B Y=>hO5 J A B Y rfl (fun _ _=>rfl)
   have hC6:=fun A B Y=>hC5 J A B Y rfl (fun _ _=>rfl)
   clear hT5 hO5 hC5 hA hO hC hFd hSd hJ hcs hcS
   generalize csT c.threads i .nils xS=T at *
   repeat' (first|(with_reducible first|refine uk ?_|refine wk ?_ ?_<;>intro _|(refine dw P11 mixed ?_ ?_ ?_;kernel_rfl;kernel_rfl)|refine And.intro ?_ ?_|refine callE a16 ?_|refine callE har ?_)|simp -implicitDefEqProofs(disch:=first|assumption|omega)[*])
   all_goals exact img_deep (c:={c with threads:=c.threads.set i (pcTo n (nth c.threads i)) }) (hT _ _ _) (hO6 _ _ _) (hC6 _ _ _) (rowD _) (rowD _) (rowD _) (rowD _) (rowD _) (rowD _)
  ·obtain⟨_,r2,rfl,r4,r5⟩:=hA.frames.resolve_left fun h=>h0 h.1
   rw [layB_get] at r4
   have hf:=(List.getElem?_eq_some_iff.1 r4).1
   have hfd:f<d:=by have:=hA.atF.2 h0;omega
   have hm:(nth c.threads i).frames.length≤8:=htb.1
   have e0':(0:Int)<(nth c.threads i).frames.length:=by omega
   have e0'':0<(nth c.threads i).frames.length:=by omega
   have g1:∀ Y,(J++Y)[f]? = some (.cells r):=fun Y=>by rw [List.getElem?_append_left hf];exact r4
   have g2:∀ Y o,(J++Y).set f o=J.set f o++Y:=fun Y o=>by rw [List.set_append_left _ _ hf]
   have g3:∀ X x o,(J.set f o++x :: X)[J.length]? = some x:=fun X x o=>by rw [List.getElem?_append_right (by simp)];simp
   have g4:0+1+1≤r.length:=by omega
   have g5:0+1≤r.length:=by omega
   have g6:1+1≤r.length:=by omega
   have g7:2≤r.length:=by omega
   have g8:2≤(nth c.threads i).frames.length*3:=by omega
   have g9:1≤(nth c.threads i).frames.length*3:=by omega
   have kp:∀ o e,e≠f→(J.set f o)[e]? = J[e]?:=fun o e h=>List.getElem?_set_ne (Ne.symm h)
   have hFd:∀ A B Y,DeepV (s++(A :: B :: (J.set f (.cells (r.set 1 (.int .i64 n)))++Y))) s.length (.ref 3 (s.length+(f+2)) 0 (nth c.threads i).frames.length false) (row ((nth c.threads i).frames.set 0 {nth (nth c.threads i).frames 0 with pc:=n })):=fun A B Y=>by
    have hv:=FrmsV.pc (pc:=n) 0 hA.fr e0''
    rw [Nat.zero_mul,Nat.zero_add] at hv
    have hv2:FrmsV (s++(A :: B :: (J.set f (.cells (r.set 1 (.int .i64 n)))++Y))) ((nth c.threads i).frames.set 0 {nth (nth c.threads i).frames 0 with pc:=n }) ids (r.set 1 (.int .i64 n)):=hv.keep fun id hid=>by
     have a:=hA.ids id hid
     obtain⟨e,rfl⟩:∃ e,id=s.length+(e+2):=⟨id - (s.length+2),by omega⟩
     rw [layB_get,layB_get,List.getElem?_append_left (by simp;omega),kp _ e (fun h=>a.2.2.1 h0 (by omega))]
    refine RowR.deep (α:=Frm) (id:=s.length+(f+2)) (cs:=r.set 1 (.int .i64 n)) (.inr ⟨by simpa using h0,by intro e;have h:=congrArg List.length e;rw [List.length_set,List.length_nil] at h;omega,by simp,by rw [layB_get,List.getElem?_append_left (by simpa using hf),List.getElem?_set_self hf],by simpa using r5⟩) (by omega) (hv2.deep fun id hid=>by have:=(hA.ids id hid).1;omega)
   have hSd:∀ A B Y,DeepV (s++(A :: B :: (J.set f (.cells (r.set 1 (.int .i64 n)))++Y))) s.length xS (row (nth c.threads i).stack):=fun A B Y=>RowR.deep0 (id:=s.length+(q+2)) (hA.stack.keep fun hs=>by
    have:=hA.atS.2 hs
    have:=hA.ne h0 hs
    rw [layB_get,layB_get,List.getElem?_append_left (by simp;omega),kp _ q (by omega)]) (by omega)
   have hT:∀ A B Y,DeepV (s++(A :: B :: (J.set f (.cells (r.set 1 (.int .i64 n)))++Y))) s.length (.ref 5 (s.length+(d+2)) 0 c.threads.length false) (row (c.threads.set i (pcTo n (nth c.threads i)))):=fun A B Y=>
    hT5 (J.set f (.cells (r.set 1 (.int .i64 n)))) A B Y xS _ _ (by rw [kp _ d (by omega)];exact hJ) (by simpa using hd) (hFd A B Y) (hSd A B Y)
   have hO6:=fun A B Y=>hO5 (J.set f (.cells (r.set 1 (.int .i64 n)))) A B Y (by simp) (fun e he=>kp _ e (by omega))
   have hC6:=fun A B Y=>hC5 (J.set f (.cells (r.set 1 (.int .i64 n)))) A B Y (by simp) (fun e he=>kp _ e (by omega))
   clear hT5 hO5 hC5 hA hO hC hFd hSd hJ hcs hcS kp
   generalize csT c.threads i _ xS=T at *
   repeat' (first|(with_reducible first|refine uk ?_|refine wk ?_ ?_<;>intro _|(refine dw P11 mixed ?_ ?_ ?_;kernel_rfl;kernel_rfl)|refine And.intro ?_ ?_|refine callE a16 ?_|refine callE har ?_)|simp -implicitDefEqProofs(disch:=first|assumption|omega)[*])
   all_goals exact img_deep (c:={c with threads:=c.threads.set i (pcTo n (nth c.threads i)) }) (hT _ _ _) (hO6 _ _ _) (hC6 _ _ _) (rowD _) (rowD _) (rowD _) (rowD _) (rowD _) (rowD _)
theorem turn_p {x:Img} {what at_ n:Int} {k:Nat} (hs:SizeC x.c k) (hk:k≤2) (h1:I64 what) (h2:I64 at_):PureC Tryz.prog 11 [.agg x.lv,.int .i64 what,.int .i64 at_,.int .i64 n] (.agg (turnC x what at_ n).lv):=by
 obtain⟨ver,ep,p,c⟩:=x
 have h16:=around_in (n:=what) (m:=16) (by omega)
 obtain⟨w,hw⟩:∃ w,around what 16=w:=⟨_,rfl⟩
 rw [hw] at h16
 have hc:(w=0∨w=1∨w=2∨w=3∨w=6∨w=7∨w=14)∨w=15∨(w=4∨w=5)∨(w=13∨w=8∨w=9∨w=10∨w=11∨w=12):=by omega
 rcases hc with hc | rfl | hc | hc
 ·exact turnB_p hs hk h1 h2 hw hc
 ·exact turnE_p hs hk h1 h2 hw
 ·exact turnF_p hs hk h1 h2 hw hc
 ·rcases hc with e | e | e | e | e | e
  ·exact turnD_p (j:=0) hs hk h1 h2 hw (by omega)
  ·exact turnD_p (j:=1) hs hk h1 h2 hw (by omega)
  ·exact turnD_p (j:=2) hs hk h1 h2 hw (by omega)
  ·exact turnD_p (j:=3) hs hk h1 h2 hw (by omega)
  ·exact turnD_p (j:=4) hs hk h1 h2 hw (by omega)
  ·exact turnD_p (j:=5) hs hk h1 h2 hw (by omega)
theorem size_big {c:Cor} (h:SizeC c 2):BigC c:=by
 have q:∀ {L:List (List Int)},SizeL L 2→BigR L:=fun {L} h=>⟨by have:=h.1;omega,fun l hl=>by have:=h.2 l hl;omega⟩
 exact⟨⟨by have:=h.thr;omega,fun t ht=>by have:=h.th t ht;exact⟨by have:=this.1;omega,by have:=this.2.1;omega,fun f hf=>by have:=this.2.2 f hf;omega⟩⟩,by have:=h.owners;omega,by have:=h.counts;omega,q h.bufs,q h.lockq,q h.waitq,q h.downq,q h.sendq,q h.recvq⟩
theorem may_good {g:Prog} (hp:MayP g) (hm:mayP g=true):PureE Tryz.prog 35 [.agg [row g.funcs,.int .i64 g.mutexes,row g.conds,row g.semas,row g.chans,row g.choices,.int .i64 g.threads]] (.bool true):=by
 have h:=refMay_p (fs:=g.funcs) (mu:=g.mutexes) (th:=g.threads) (co:=g.conds) (se:=g.semas) (ch:=g.chans) (cho:=g.choices) (by have:=hp.funcs;omega) (by have:=hp.conds;omega) (by have:=hp.semas;omega) (by have:=hp.chans;omega) (by have:=hp.choices;omega) (fun l hl=>by have:=(hp.choices.2 l hl).2.2.1;omega) (by have:=hp.mutexes;constructor<;>omega)
 rw [show mayP ⟨g.funcs,g.mutexes,g.conds,g.semas,g.chans,g.choices,g.threads⟩=true from hm] at h
 exact h
end Go.Hb
end
