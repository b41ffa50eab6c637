/-
  A layer for reasoning about the program's calls, and contracts of its functions. CONDITIONS: none; each theorem bears its own.
-/
import Derived.Test.YtieoaonaijbijaaGreatG18
import Derived.Test.YtieoaonaijbijaaGreatG07
set_option linter.unusedVariables false
set_option linter.unusedSimpArgs false
section
namespace Go.Hb
open Go Go.Proofs Go.RowKit
set_option maxRecDepth 100000
set_option maxHeartbeats 800000
attribute [-simp] aC aL xq yp zE aIf yr zR aLen zt ya zQ zP lBr aq yP aev zk zw zF zI LV.cells LV.cellsOk getElem?_pos getElem?_neg
section
attribute [local simp] Cor.lv vI
theorem zfv {c:Cor}(hb:CorB c){s:List AObj}{v:List Nat} : zp Tryz.prog 297 [.agg [.int .i64 c.now,row c.threads,row c.owners,row c.counts,row c.bufs,row c.lockq,row c.waitq,row c.downq,row c.sendq,row c.recvq]] s v (OwnR c s v):=
 zmk (by have:=hb.owners;omega) (by have:=hb.counts;omega) hb.lockq.big hb.waitq.big hb.downq.big
theorem zil {c:Cor}{m t:Int}(hb:CorB c)(h0:0≤m)(h1:m<c.owners.length)(h2:m<c.lockq.length):zG Tryz.prog 274 [.agg [.int .i64 c.now,row c.threads,row c.owners,row c.counts,row c.bufs,row c.lockq,row c.waitq,row c.downq,row c.sendq,row c.recvq],.int .i64 m,.int .i64 t] (.tup [.agg (vG c m t).1.lv,.bool (vG c m t).2]):=by
 intro s v
 refine zS ?_
 have hbo:=hb.owners
 have hbl:=hb.lockq
 have hmm:m.toNat<c.owners.length:=by omega
 have hml:m.toNat<c.lockq.length:=by omega
 refine ac0 Tryz.func274 Tryz.ntmps274 ?_
 have hrs:Tryz.f274.results = #[.cell 6 29,.tmp 7]:=rfl
 repeat' (first|(with_reducible first|refine uk ?_|refine wk ?_ ?_<;>intro _|(refine dr P274 mixed ?_ ?_ ?_;kernel_rfl;kernel_rfl)|refine Jz (zfv hb) (fun v' J xO xC xL xW xD cL cW cD dO dC dL dW dD qO qC qL qW qD ho=>?_))|simp -implicitDefEqProofs(disch:=first|assumption|omega)[*])
 replace ho:=ho.lay
 obtain⟨rfl,jO,lO,nO⟩:=ho.owners.obj (by omega)
 obtain⟨rfl,jL,lL,nL⟩:=ho.lockq.obj (by omega)
 obtain⟨x,gx1,gx2⟩:=ho.gL.at_ m.toNat hml
 have hix:=zB h0 h1
 have eO:=vx hmm
 have hm1:m.toNat+1≤c.owners.length:=by omega
 have hm2:m.toNat+1≤c.lockq.length:=by omega
 have hxc:=gx2.gro.cells
 obtain⟨x2,v2,gy,_,ha⟩:=gx2.push (P:=Tryz.prog) (t:=23) (t2:=23) (sz:=1) (by_:=8) (by kernel_rfl) rfl (by omega) t (by have:=hbl.2 _ (zm hml);omega)
 simp only[yG] at ha
 have hyc:=gy.gro.cells
 unfold vG at'
 by_cases hg:0≤nth c.owners m.toNat
 ·rw[if_pos hg]
  repeat' (first|(with_reducible first|refine uk ?_|refine wk ?_ ?_<;>intro _|(refine dr P274 mixed ?_ ?_ ?_;kernel_rfl;kernel_rfl))|simp -implicitDefEqProofs(disch:=first|assumption|omega)[*])
  exact⟨_,.tup _ _ (.cons _ _ _ _ ((ho.w.setL (by omega) (L:=c.lockq.set m.toNat (nth c.lockq m.toNat++[t])) (cs:=cL.set m.toNat x2) (by simp) (ho.gL.weak.put gy.gro.weak (gy.gro.under 0))).box _ _).deep (.cons _ _ _ _ (.keep _ rfl) .nil)),rfl,gy.1⟩
 ·rw[if_neg hg]
  repeat' (first|(with_reducible first|refine uk ?_|refine wk ?_ ?_<;>intro _|(refine dr P274 mixed ?_ ?_ ?_;kernel_rfl;kernel_rfl))|simp -implicitDefEqProofs(disch:=first|assumption|omega)[*])
  exact⟨_,.tup _ _ (.cons _ _ _ _ ((ho.w.setO (by omega) (l:=c.owners.set m.toNat t) (by simp)).box _ _).deep (.cons _ _ _ _ (.keep _ rfl) .nil)),rfl,ho.gL.pre⟩
theorem zlN {c:Cor}{m t:Int}(hb:CorB c)(h0:0≤m)(h1:m<c.counts.length)(h2:m<c.downq.length)(h3:0≤nth c.counts m.toNat∧nth c.counts m.toNat≤1073741824):zG Tryz.prog 278 [.agg [.int .i64 c.now,row c.threads,row c.owners,row c.counts,row c.bufs,row c.lockq,row c.waitq,row c.downq,row c.sendq,row c.recvq],.int .i64 m,.int .i64 t] (.tup [.agg (Zy c m t).1.lv,.bool (Zy c m t).2]):=by
 intro s v
 refine zS ?_
 have hbo:=hb.counts
 have hbl:=hb.downq
 have hmm:m.toNat<c.counts.length:=by omega
 have hml:m.toNat<c.downq.length:=by omega
 refine ac0 Tryz.func278 Tryz.ntmps278 ?_
 have hrs:Tryz.f278.results = #[.cell 6 29,.tmp 7]:=rfl
 repeat' (first|(with_reducible first|refine uk ?_|refine wk ?_ ?_<;>intro _|(refine dr P278 mixed ?_ ?_ ?_;kernel_rfl;kernel_rfl)|refine Jz (zfv hb) (fun v' J xO xC xL xW xD cL cW cD dO dC dL dW dD qO qC qL qW qD ho=>?_))|simp -implicitDefEqProofs(disch:=first|assumption|omega)[*])
 replace ho:=ho.lay
 obtain⟨rfl,jO,lO,nO⟩:=ho.counts.obj (by omega)
 obtain⟨rfl,jL,lL,nL⟩:=ho.downq.obj (by omega)
 obtain⟨x,gx1,gx2⟩:=ho.gD.at_ m.toNat hml
 have hix:=zB h0 h1
 have eO:=vx hmm
 have hm1:m.toNat+1≤c.counts.length:=by omega
 have hm2:m.toNat+1≤c.downq.length:=by omega
 have hxc:=gx2.gro.cells
 obtain⟨x2,v2,gy,_,ha⟩:=gx2.push (P:=Tryz.prog) (t:=23) (t2:=23) (sz:=1) (by_:=8) (by kernel_rfl) rfl (by omega) t (by have:=hbl.2 _ (zm hml);omega)
 simp only[yG] at ha
 have hyc:=gy.gro.cells
 unfold Zy at'
 by_cases hg:nth c.counts m.toNat=0
 ·rw[if_pos hg]
  repeat' (first|(with_reducible first|refine uk ?_|refine wk ?_ ?_<;>intro _|(refine dr P278 mixed ?_ ?_ ?_;kernel_rfl;kernel_rfl))|simp -implicitDefEqProofs(disch:=first|assumption|omega)[*])
  exact⟨_,.tup _ _ (.cons _ _ _ _ ((ho.w.setD (by omega) (L:=c.downq.set m.toNat (nth c.downq m.toNat++[t])) (cs:=cD.set m.toNat x2) (by simp) (ho.gD.weak.put gy.gro.weak (gy.gro.under 0))).box _ _).deep (.cons _ _ _ _ (.keep _ rfl) .nil)),rfl,gy.1⟩
 ·rw[if_neg hg]
  repeat' (first|(with_reducible first|refine uk ?_|refine wk ?_ ?_<;>intro _|(refine dr P278 mixed ?_ ?_ ?_;kernel_rfl;kernel_rfl))|simp -implicitDefEqProofs(disch:=first|assumption|omega)[*])
  exact⟨_,.tup _ _ (.cons _ _ _ _ ((ho.w.setC (by omega) (l:=c.counts.set m.toNat (nth c.counts m.toNat-1)) (by simp)).box _ _).deep (.cons _ _ _ _ (.keep _ rfl) .nil)),rfl,ho.gL.pre⟩
theorem up_p {c:Cor}{m:Int}(hb:CorB c)(h0:0≤m)(h1:m<c.counts.length)(h2:m<c.downq.length)(h3:0≤nth c.counts m.toNat∧nth c.counts m.toNat≤1073741824):zG Tryz.prog 279 [.agg [.int .i64 c.now,row c.threads,row c.owners,row c.counts,row c.bufs,row c.lockq,row c.waitq,row c.downq,row c.sendq,row c.recvq],.int .i64 m] (.tup [.agg (upC c m).1.lv,.int .i64 (upC c m).2]):=by
 intro s v
 refine zS ?_
 have hbo:=hb.counts
 have hbl:=hb.downq
 have hmm:m.toNat<c.counts.length:=by omega
 have hml:m.toNat<c.downq.length:=by omega
 refine ac0 Tryz.func279 Tryz.ntmps279 ?_
 have hrs:Tryz.f279.results = #[.cell 4 29,.tmp 5]:=rfl
 repeat' (first|(with_reducible first|refine uk ?_|refine wk ?_ ?_<;>intro _|(refine dr P279 mixed ?_ ?_ ?_;kernel_rfl;kernel_rfl)|refine Jz (zfv hb) (fun v' J xO xC xL xW xD cL cW cD dO dC dL dW dD qO qC qL qW qD ho=>?_))|simp -implicitDefEqProofs(disch:=first|assumption|omega)[*])
 replace ho:=ho.lay
 obtain⟨rfl,jO,lO,nO⟩:=ho.counts.obj (by omega)
 obtain⟨rfl,jL,lL,nL⟩:=ho.downq.obj (by omega)
 obtain⟨x,gx1,gx2⟩:=ho.gD.at_ m.toNat hml
 have hix:=zB h0 h1
 have eO:=vx hmm
 have hm1:m.toNat+1≤c.counts.length:=by omega
 have hm2:m.toNat+1≤c.downq.length:=by omega
 have hxc:=gx2.gro.cells
 have hxl:=gx2.gro.len (P:=Tryz.prog) (t:=23) (by kernel_rfl)
 have hxi:=fun i=>gx2.ix (P:=Tryz.prog) (t:=23) (κ:=.i64) (i:=i)
 have hpre:=ho.gL.pre
 unfold upC at'
 by_cases hg:(nth c.downq m.toNat).length=0
 ·rw[if_pos hg]
  by_cases hc:nth c.counts m.toNat<1073741824
  ·rw[if_pos hc]
   repeat' (first|(with_reducible first|refine uk ?_|refine wk ?_ ?_<;>intro _|(refine dr P279 mixed ?_ ?_ ?_;kernel_rfl;kernel_rfl))|simp -implicitDefEqProofs(disch:=first|assumption|omega)[*])
   exact .tup _ _ (.cons _ _ _ _ ((ho.w.setC (by omega) (l:=c.counts.set m.toNat (nth c.counts m.toNat+1)) (by simp)).box _ _).deep (.cons _ _ _ _ (.keep _ rfl) .nil))
  ·rw[if_neg hc]
   repeat' (first|(with_reducible first|refine uk ?_|refine wk ?_ ?_<;>intro _|(refine dr P279 mixed ?_ ?_ ?_;kernel_rfl;kernel_rfl))|simp -implicitDefEqProofs(disch:=first|assumption|omega)[*])
   exact .tup _ _ (.cons _ _ _ _ (ho.w.box _ _).deep (.cons _ _ _ _ (.keep _ rfl) .nil))
 ·rw[if_neg hg]
  have hi0:=zB (l:=nth c.downq m.toNat) (i:=0) (by omega) (by omega)
  obtain⟨y,hy1,gy⟩:=gx2.slice (P:=Tryz.prog) (t:=23) (a:=1) (by simp) (by omega) (by omega)
  have hyc:=gy.gro.cells
  simp only[show (1:Int).toNat=1 from rfl,List.drop_one] at gy
  repeat' (first|(with_reducible first|refine uk ?_|refine wk ?_ ?_<;>intro _|(refine dr P279 mixed ?_ ?_ ?_;kernel_rfl;kernel_rfl))|simp -implicitDefEqProofs(disch:=first|assumption|omega)[*])
  exact .tup _ _ (.cons _ _ _ _ ((ho.w.setD (by omega) (L:=c.downq.set m.toNat (nth c.downq m.toNat).tail) (cs:=cD.set m.toNat y) (by simp) (ho.gD.weak.put gy.gro.weak (gy.gro.under 0))).box _ _).deep (.cons _ _ _ _ (.keep _ rfl) .nil))
def UnlR (c:Cor)(m t:Int)(s:List AObj)(v:List Nat)(y:LV)(s':List AObj)(v':List Nat):Prop:=
 (nth c.owners m.toNat≠t∧s=s'∧v=v'∧y = .tup [.agg c.lv,.int .i64 (-1),.int .i64 10])∨
 (nth c.owners m.toNat=t∧∃ J a b xO xC xL xW xD cL cW cD dO dC dL dW dD,s++(a :: b :: J)=s'∧y = .tup [.agg [.int .i64 (zf c m t).1.now,row (zf c m t).1.threads,xO,xC,row (zf c m t).1.bufs,xL,xW,xD,row (zf c m t).1.sendq,row (zf c m t).1.recvq],.int .i64 (zf c m t).2.1,.int .i64 0]∧
  OwnW s J a b (zf c m t).1 xO xC xL xW xD cL cW cD dO dC dL dW dD∧ListsG v v' c.waitq cW)
theorem zcG {c:Cor}{m t:Int}(hb:CorB c)(h0:0≤m)(h1:m<c.owners.length)(h2:m<c.lockq.length){s:List AObj}{v:List Nat} : zp Tryz.prog 275 [.agg [.int .i64 c.now,row c.threads,row c.owners,row c.counts,row c.bufs,row c.lockq,row c.waitq,row c.downq,row c.sendq,row c.recvq],.int .i64 m,.int .i64 t] s v (UnlR c m t s v):=by
 have hbo:=hb.owners
 have hbl:=hb.lockq
 have hmm:m.toNat<c.owners.length:=by omega
 have hml:m.toNat<c.lockq.length:=by omega
 have hix:=zB h0 h1
 by_cases hne:nth c.owners m.toNat=t
 rotate_left
 ·have h:zM Tryz.prog 275 [.agg [.int .i64 c.now,row c.threads,row c.owners,row c.counts,row c.bufs,row c.lockq,row c.waitq,row c.downq,row c.sendq,row c.recvq],.int .i64 m,.int .i64 t] (.tup [.agg c.lv,.int .i64 (-1),.int .i64 10]):=by
   refine .of fun s v=>?_
   simp only[Cor.lv]
   refine ac0 Tryz.func275 Tryz.ntmps275 ?_
   have hrs:Tryz.f275.results = #[.cell 6 29,.tmp 7,.tmp 8]:=rfl
   repeat' (first|(with_reducible first|refine uk ?_|refine wk ?_ ?_<;>intro _|(refine dr P275 mixed ?_ ?_ ?_;kernel_rfl;kernel_rfl))|simp -implicitDefEqProofs(disch:=first|assumption|omega)[*])
   exact zn.eqat rfl (by simp)
  refine zj (h s v) ?_
  rintro y s' v' ⟨rfl,rfl,rfl⟩
  exact .inl ⟨hne,rfl,rfl,rfl⟩
 have eO:=vx hmm
 have hm1:m.toNat+1≤c.owners.length:=by omega
 have hm2:m.toNat+1≤c.lockq.length:=by omega
 refine ac0 Tryz.func275 Tryz.ntmps275 ?_
 have hrs:Tryz.f275.results = #[.cell 6 29,.tmp 7,.tmp 8]:=rfl
 repeat' (first|(with_reducible first|refine uk ?_|refine wk ?_ ?_<;>intro _|(refine dr P275 mixed ?_ ?_ ?_;kernel_rfl;kernel_rfl)|refine Jz (zfv hb) (fun v' J xO xC xL xW xD cL cW cD dO dC dL dW dD qO qC qL qW qD ho=>?_))|simp -implicitDefEqProofs(disch:=first|assumption|omega)[*])
 replace ho:=ho.lay
 have hgW:=ho.gW
 obtain⟨e1,jO,lO,nO⟩:=ho.owners.obj (by omega)
 obtain⟨e2,jL,lL,nL⟩:=ho.lockq.obj (by omega)
 have w1:=ho.w.setO (by omega) (l:=c.owners.set m.toNat (-1)) (by simp)
 have jO1:=(w1.owners.obj (by show (c.owners.set _ _).length≠0;rw[List.length_set];omega)).2.1
 have jL1:=(w1.lockq.obj (by show c.lockq.length≠0;omega)).2.1
 obtain⟨x,gx1,gx2⟩:=ho.gL.at_ m.toNat hml
 have hxc:=gx2.gro.cells
 have hxl:=gx2.gro.len (P:=Tryz.prog) (t:=23) (by kernel_rfl)
 have hxi:=fun i=>gx2.ix (P:=Tryz.prog) (t:=23) (κ:=.i64) (i:=i)
 have hgL:=ho.gL.weak
 have w2:=ho.w.setO (by omega) (l:=c.owners.set m.toNat (nth (nth c.lockq m.toNat) 0)) (by simp)
 have hlen1:m.toNat+1≤(zd (c.owners.set m.toNat (-1))).length:=by rw[zY,List.length_set];simp;omega
 have eO1:=vx (l:=c.owners.set m.toNat (-1)) (i:=m.toNat) (by simp;omega)
 rw[wC hmm] at eO1
 simp only at jO1 jL1
 subst e1 e2
 clear ho
 by_cases hg:0<(nth c.lockq m.toNat).length
 ·have hu:zf c m t=({c with owners:=c.owners.set m.toNat (nth (nth c.lockq m.toNat) 0),lockq:=c.lockq.set m.toNat ((nth c.lockq m.toNat).drop 1) },nth (nth c.lockq m.toNat) 0,0):=by
   unfold zf at'
   rw[if_neg (by simp[hne]),if_pos hg]
  have hi0:=zB (l:=nth c.lockq m.toNat) (i:=0) (by omega) (by omega)
  obtain⟨y,hy1,gy⟩:=gx2.slice (P:=Tryz.prog) (t:=23) (a:=1) (by simp) (by omega) (by omega)
  have hyc:=gy.gro.cells
  simp only[show (1:Int).toNat=1 from rfl,List.drop_one] at gy hu
  have w3:=w2.setL (show c.lockq.length≠0 by omega) (L:=c.lockq.set m.toNat (nth c.lockq m.toNat).tail) (cs:=cL.set m.toNat y) (by simp) (hgL.put gy.gro.weak (gy.gro.under 0))
  have jL2:=(w2.lockq.obj (by show c.lockq.length≠0;omega)).2.1
  have jO3:=(w3.owners.obj (by show (c.owners.set _ _).length≠0;rw[List.length_set];omega)).2.1
  have eO3:=vx (l:=c.owners.set m.toNat (nth (nth c.lockq m.toNat) 0)) (i:=m.toNat) (by simp;omega)
  rw[wC hmm] at eO3
  simp only at jL2 jO3
  repeat' (first|(with_reducible first|refine uk ?_|refine wk ?_ ?_<;>intro _|(refine dr P275 mixed ?_ ?_ ?_;kernel_rfl;kernel_rfl))|simp -implicitDefEqProofs(disch:=first|assumption|omega)[*])
  exact .inr ⟨hne,_,_,_,_,xC,_,xW,xD,_,cW,cD,dO,dC,dL,dW,dD,rfl,by rw[hu],by rw[hu];exact w3.box _ _,hgW⟩
 ·have hu:zf c m t=({c with owners:=c.owners.set m.toNat (-1) }, -1,0):=by
   unfold zf at'
   rw[if_neg (by simp[hne]),if_neg hg]
  repeat' (first|(with_reducible first|refine uk ?_|refine wk ?_ ?_<;>intro _|(refine dr P275 mixed ?_ ?_ ?_;kernel_rfl;kernel_rfl))|simp -implicitDefEqProofs(disch:=first|assumption|omega)[*])
  exact .inr ⟨hne,_,_,_,_,xC,_,xW,xD,cL,cW,cD,dO,dC,dL,dW,dD,rfl,by rw[hu],by rw[hu];exact w1.box _ _,hgW⟩
theorem zgQ {c:Cor}{m t:Int}(hb:CorB c)(h0:0≤m)(h1:m<c.owners.length)(h2:m<c.lockq.length):zG Tryz.prog 275 [.agg [.int .i64 c.now,row c.threads,row c.owners,row c.counts,row c.bufs,row c.lockq,row c.waitq,row c.downq,row c.sendq,row c.recvq],.int .i64 m,.int .i64 t] (.tup [.agg (zf c m t).1.lv,.int .i64 (zf c m t).2.1,.int .i64 (zf c m t).2.2]):=by
 intro s v
 refine zS (zj (zcG hb h0 h1 h2) ?_)
 rintro y s' v' (⟨hne,rfl,rfl,rfl⟩ | ⟨he,J,a,b,xO,xC,xL,xW,xD,cL,cW,cD,dO,dC,dL,dW,dD,rfl,rfl,hw,hg⟩)
 ·have hu:zf c m t=(c, -1,10):=by unfold zf at';rw[if_pos hne]
  rw[hu]
  exact⟨[],_,by simp,.keep _ (by simp[LV.under,zH]),rfl,rfl,List.prefix_refl _⟩
 ·have hu:(zf c m t).2.2=0:=by unfold zf at';rw[if_neg (by simp[he])];split<;>rfl
  rw[hu]
  exact⟨_,_,rfl,.tup _ _ (.cons _ _ _ _ hw.deep (.cons _ _ _ _ (.keep _ rfl) (.cons _ _ _ _ (.keep _ rfl) .nil))),rfl,rfl,hg.pre⟩
end
section
attribute [local simp] Cor.lv vI
theorem zjz {c:Cor}{m t:Int}{f:FuncId}{args:List LV}{s:List AObj}{v:List Nat}{K:LV→List AObj→List Nat→Prop}(h:zp Tryz.prog f args s v (UnlR c m t s v))(he:nth c.owners m.toNat=t)
  (k:∀ v' J a b xO xC xL xW xD cL cW cD dO dC dL dW dD,(xO.cells=[xO]∧xO.cellsOk=true)→(xC.cells=[xC]∧xC.cellsOk=true)→(xL.cells=[xL]∧xL.cellsOk=true)→(xW.cells=[xW]∧xW.cellsOk=true)→(xD.cells=[xD]∧xD.cellsOk=true)→
   OwnW s J a b (zf c m t).1 xO xC xL xW xD cL cW cD dO dC dL dW dD→ListsG v v' c.waitq cW→
   K (.tup [.agg [.int .i64 (zf c m t).1.now,row (zf c m t).1.threads,xO,xC,row (zf c m t).1.bufs,xL,xW,xD,row (zf c m t).1.sendq,row (zf c m t).1.recvq],.int .i64 (zf c m t).2.1,.int .i64 0]) (s++(a :: b :: J)) v'):zp Tryz.prog f args s v K:=by
 refine zj h ?_
 rintro y s' v' (⟨hne,_⟩ | ⟨_,J,a,b,xO,xC,xL,xW,xD,cL,cW,cD,dO,dC,dL,dW,dD,rfl,rfl,hw,hg⟩)
 ·exact absurd he hne
 ·exact k v' J a b xO xC xL xW xD cL cW cD dO dC dL dW dD hw.owners.cells hw.counts.cells hw.lockq.cells hw.waitq.cells hw.downq.cells hw hg
theorem zhf {c:Cor}{m t:Int}{f:FuncId}{args:List LV}{s:List AObj}{v:List Nat}{K:LV→List AObj→List Nat→Prop}(h:zp Tryz.prog f args s v (UnlR c m t s v))(he:nth c.owners m.toNat≠t)
  (k:K (.tup [.agg c.lv,.int .i64 (-1),.int .i64 10]) s v):zp Tryz.prog f args s v K:=by
 refine zj h ?_
 rintro y s' v' (⟨hne,rfl,rfl,rfl⟩ | ⟨h2,_⟩)
 ·exact k
 ·exact absurd h2 he
theorem zkP {c:Cor}{cd m t:Int}(hb:CorB c)(h0:0≤m)(h1:m<c.owners.length)(h2:m<c.lockq.length)(hc0:0≤cd)(hc1:cd<c.waitq.length):zG Tryz.prog 276 [.agg [.int .i64 c.now,row c.threads,row c.owners,row c.counts,row c.bufs,row c.lockq,row c.waitq,row c.downq,row c.sendq,row c.recvq],.int .i64 cd,.int .i64 m,.int .i64 t] (.tup [.agg (xN c cd m t).1.lv,.int .i64 (xN c cd m t).2.1,.int .i64 (xN c cd m t).2.2]):=by
 intro s v
 refine zS ?_
 have hu:=fun s v=>zcG (t:=t) hb h0 h1 h2 (s:=s) (v:=v)
 have hbw:=hb.waitq
 have hmw:cd.toNat<c.waitq.length:=by omega
 have hcm:cd.toNat+1≤c.waitq.length:=by omega
 by_cases he:nth c.owners m.toNat=t
 rotate_left
 ·have huc:zf c m t=(c, -1,10):=by unfold zf at';rw[if_pos he]
  have hw:xN c cd m t=(c, -1,10):=by unfold xN;rw[huc,if_pos (by simp)]
  rw[hw]
  refine ac0 Tryz.func276 Tryz.ntmps276 ?_
  have hrs:Tryz.f276.results = #[.cell 8 29,.tmp 9,.tmp 10]:=rfl
  repeat' (first|(with_reducible first|refine uk ?_|refine wk ?_ ?_<;>intro _|(refine dr P276 mixed ?_ ?_ ?_;kernel_rfl;kernel_rfl)|refine zhf (hu _ _) he ?_)|simp -implicitDefEqProofs(disch:=first|assumption|omega)[*])
  exact .keep _ (by simp[LV.under,zH])
 have hu0:(zf c m t).2.2=0:=by unfold zf at';rw[if_neg (by simp[he])];split<;>rfl
 have huw:(zf c m t).1.waitq=c.waitq:=by unfold zf at';rw[if_neg (by simp[he])];split<;>rfl
 have hw:xN c cd m t=({(zf c m t).1 with waitq:=c.waitq.set cd.toNat (nth c.waitq cd.toNat++[t]) },(zf c m t).2.1,0):=by unfold xN at';rw[if_neg (by simp[hu0]),huw,hu0]
 rw[hw]
 refine ac0 Tryz.func276 Tryz.ntmps276 ?_
 have hrs:Tryz.f276.results = #[.cell 8 29,.tmp 9,.tmp 10]:=rfl
 repeat' (first|(with_reducible first|refine uk ?_|refine wk ?_ ?_<;>intro _|(refine dr P276 mixed ?_ ?_ ?_;kernel_rfl;kernel_rfl)|refine zjz (hu _ _) he (fun v' J a b xO xC xL xW xD cL cW cD dO dC dL dW dD qO qC qL qW qD hw hg=>?_))|simp -implicitDefEqProofs(disch:=first|assumption|omega)[*])
 replace hw:=hw.lift
 have hne:(zf c m t).1.waitq.length≠0:=by rw[huw];omega
 obtain⟨e1,jW,lW,nW⟩:=hw.waitq.obj hne
 simp only[List.getElem?_cons_succ] at jW
 have hdW:=(List.getElem?_eq_some_iff.1 jW).1
 obtain⟨x,gx1,gx2⟩:=hg.at_ cd.toNat hmw
 have hxc:=gx2.gro.cells
 obtain⟨x2,v2,gy,_,ha⟩:=gx2.push (P:=Tryz.prog) (t:=23) (t2:=23) (sz:=1) (by_:=8) (by kernel_rfl) rfl (by omega) t (by have:=hbw.2 _ (zm hmw);omega)
 simp only[yG] at ha
 have hyc:=gy.gro.cells
 have hJX:∀ X,(J++[X])[dW]? = some (.cells cW):=fun X=>by rw[List.getElem?_append_left hdW];exact jW
 have hJS:∀ X o,(J++[X]).set dW o=J.set dW o++[X]:=fun X o=>by rw[List.set_append_left _ _ hdW]
 have hJL:∀ X o,(J.set dW o++[X])[J.length]? = some X:=fun X o=>by rw[List.getElem?_append_right (by simp)];simp
 rw[huw] at e1 lW
 subst e1
 have hw3:=fun X p q=>(((hw.more [X]).setW hne (L:=c.waitq.set cd.toNat (nth c.waitq cd.toNat++[t])) (cs:=cW.set cd.toNat x2) (by rw[huw];simp) (by have:=hw.gW;rw[huw] at this;exact this.put gy.gro.weak (gy.gro.under 0))).box p q).cast (J':=a :: b :: (J.set dW (.cells (cW.set cd.toNat x2))++[X])) (by simp[hJS])
 clear hw hu
 generalize zf c m t=u at *
 have hpre:=gy.1
 repeat' (first|(with_reducible first|refine uk ?_|refine wk ?_ ?_<;>intro _|(refine dr P276 mixed ?_ ?_ ?_;kernel_rfl;kernel_rfl))|simp -implicitDefEqProofs(disch:=first|assumption|omega)[*])
 exact .tup _ _ (.cons _ _ _ _ (hw3 _ _ _).deep (.cons _ _ _ _ (.keep _ rfl) (.cons _ _ _ _ (.keep _ rfl) .nil)))
theorem zgF {c:Cor}{cd m:Int}(hb:CorB c)(h0:0≤m)(h1:m<c.owners.length)(h2:m<c.lockq.length)(hc0:0≤cd)(hc1:cd<c.waitq.length):zG Tryz.prog 277 [.agg [.int .i64 c.now,row c.threads,row c.owners,row c.counts,row c.bufs,row c.lockq,row c.waitq,row c.downq,row c.sendq,row c.recvq],.int .i64 cd,.int .i64 m] (.tup [.agg (yk c cd m).1.lv,.int .i64 (yk c cd m).2.1,.bool (yk c cd m).2.2]):=by
 intro s v
 refine zS ?_
 have hbw:=hb.waitq
 have hmw:cd.toNat<c.waitq.length:=by omega
 have hcm:cd.toNat+1≤c.waitq.length:=by omega
 have hix:=zB hc0 hc1
 by_cases hz:(nth c.waitq cd.toNat).length=0
 ·have hs:yk c cd m=(c, -1,false):=by unfold yk at';rw[if_pos hz]
  rw[hs]
  refine ac0 Tryz.func277 Tryz.ntmps277 ?_
  have hrs:Tryz.f277.results = #[.cell 6 29,.tmp 7,.tmp 8]:=rfl
  repeat' (first|(with_reducible first|refine uk ?_|refine wk ?_ ?_<;>intro _|(refine dr P277 mixed ?_ ?_ ?_;kernel_rfl;kernel_rfl))|simp -implicitDefEqProofs(disch:=first|assumption|omega)[*])
  exact .keep _ (by simp[LV.under,zH])
 have hs:yk c cd m=((vG {c with waitq:=c.waitq.set cd.toNat ((nth c.waitq cd.toNat).drop 1) } m (nth (nth c.waitq cd.toNat) 0)).1,nth (nth c.waitq cd.toNat) 0,(vG {c with waitq:=c.waitq.set cd.toNat ((nth c.waitq cd.toNat).drop 1) } m (nth (nth c.waitq cd.toNat) 0)).2):=by unfold yk at';rw[if_neg hz]
 rw[hs]
 have hi0:=zB (l:=nth c.waitq cd.toNat) (i:=0) (by omega) (by omega)
 have hlk:zG Tryz.prog 274 [.agg (Cor.lv {c with waitq:=c.waitq.set cd.toNat ((nth c.waitq cd.toNat).drop 1) }),.int .i64 m,.int .i64 (nth (nth c.waitq cd.toNat) 0)] _:=
  zil (c:={c with waitq:=c.waitq.set cd.toNat ((nth c.waitq cd.toNat).drop 1) }) (t:=nth (nth c.waitq cd.toNat) 0) ⟨hb.threads,hb.owners,hb.counts,hb.bufs,hb.lockq,⟨by simp;exact hbw.1,fun l hl=>by
   rcases List.mem_or_eq_of_mem_set hl with hl | rfl
   ·exact hbw.2 l hl
   ·have:=hbw.2 _ (zm hmw);simp;omega⟩,hb.downq,hb.sendq,hb.recvq⟩ h0 h1 h2
 clear hs
 generalize vG {c with waitq:=c.waitq.set cd.toNat ((nth c.waitq cd.toNat).drop 1) } m (nth (nth c.waitq cd.toNat) 0)=u at *
 refine ac0 Tryz.func277 Tryz.ntmps277 ?_
 have hrs:Tryz.f277.results = #[.cell 6 29,.tmp 7,.tmp 8]:=rfl
 repeat' (first|(with_reducible first|refine uk ?_|refine wk ?_ ?_<;>intro _|(refine dr P277 mixed ?_ ?_ ?_;kernel_rfl;kernel_rfl)|refine Jz (zfv hb) (fun v' J xO xC xL xW xD cL cW cD dO dC dL dW dD qO qC qL qW qD ho=>?_))|simp -implicitDefEqProofs(disch:=first|assumption|omega)[*])
 replace ho:=ho.lay
 obtain⟨e2,jW,lW,nW⟩:=ho.waitq.obj (by omega)
 obtain⟨x,gx1,gx2⟩:=ho.gW.at_ cd.toNat hmw
 have hxc:=gx2.gro.cells
 have hxl:=gx2.gro.len (P:=Tryz.prog) (t:=23) (by kernel_rfl)
 have hxi:=fun i=>gx2.ix (P:=Tryz.prog) (t:=23) (κ:=.i64) (i:=i)
 obtain⟨y,hy1,gy⟩:=gx2.slice (P:=Tryz.prog) (t:=23) (a:=1) (by simp) (by omega) (by omega)
 have hyc:=gy.gro.cells
 simp only[show (1:Int).toNat=1 from rfl] at gy
 have hw:=ho.w.setW (by omega) (L:=c.waitq.set cd.toNat ((nth c.waitq cd.toNat).drop 1)) (cs:=cW.set cd.toNat y) (by simp) (ho.gW.weak.put gy.gro.weak (gy.gro.under 0))
 have hpre:=ho.gW.pre
 subst e2
 clear ho
 repeat' (first|(with_reducible first|refine uk ?_|refine wk ?_ ?_<;>intro _|(refine dr P277 mixed ?_ ?_ ?_;kernel_rfl;kernel_rfl))|simp -implicitDefEqProofs(disch:=first|assumption|omega)[*])
 refine(hw.box _ _).call (fun J' hJ'=>?_)
 refine zg hlk (fun v2 hv2=>?_)
 have hpre2:=hpre.trans hv2
 replace hJ':J.length=J'.length:=by rw[hJ'];simp
 clear hw hlk
 repeat' (first|(with_reducible first|refine uk ?_|refine wk ?_ ?_<;>intro _|(refine dr P277 mixed ?_ ?_ ?_;kernel_rfl;kernel_rfl))|simp -implicitDefEqProofs(disch:=first|assumption|omega)[*])
 exact .keep _ (by simp[LV.under,zH])
end
section
attribute [local simp] Cor.lv
theorem Xv {c:Cor}(hb:CorB c){s:List AObj}{v:List Nat} : zp Tryz.prog 299 [.agg [.int .i64 c.now,row c.threads,row c.owners,row c.counts,row c.bufs,row c.lockq,row c.waitq,row c.downq,row c.sendq,row c.recvq]] s v (ChR c s v):=by
 have c1:=fun s v=>wp hb.bufs.big.1 hb.bufs.big.2 (s:=s) (v:=v)
 have c2:=fun s v=>wp hb.sendq.big.1 hb.sendq.big.2 (s:=s) (v:=v)
 have c3:=fun s v=>wp hb.recvq.big.1 hb.recvq.big.2 (s:=s) (v:=v)
 refine ac1 Tryz.func299 Tryz.ntmps299 ?_
 have hrs:Tryz.f299.results = #[.cell 2 29]:=rfl
 repeat' (first|(with_reducible first|refine uk ?_|refine wk ?_ ?_<;>intro _|refine xg (c1 _ _) (fun x1 J1 d1 s1 v1 q1 r1 e1 f1 g1=>?_))|simp -implicitDefEqProofs(disch:=first|assumption|omega)[*])
 repeat' (first|(with_reducible first|refine uk ?_|refine wk ?_ ?_<;>intro _|refine xg (c2 _ _) (fun x2 J2 d2 s2 v2 q2 r2 e2 f2 g2=>?_))|simp -implicitDefEqProofs(disch:=first|assumption|omega)[*])
 repeat' (first|(with_reducible first|refine uk ?_|refine wk ?_ ?_<;>intro _|refine xg (c3 _ _) (fun x3 J3 d3 s3 v3 q3 r3 e3 f3 g3=>?_))|simp -implicitDefEqProofs(disch:=first|assumption|omega)[*])
 clear c1 c2 c3
 repeat' (first|(with_reducible first|refine uk ?_|refine wk ?_ ?_<;>intro _)|simp -implicitDefEqProofs(disch:=first|assumption|omega)[*])
 refine⟨AObj.cells [.int .i64 c.now,row c.threads,row c.owners,row c.counts,x1,row c.lockq,row c.waitq,row c.downq,x2,x3] :: AObj.cells [.int .i64 c.now,row c.threads,row c.owners,row c.counts,x1,row c.lockq,row c.waitq,row c.downq,x2,x3] :: (J1++(J2++J3)),x1,x2,x3,s1,s2,s3,2+d1,2+J1.length+d2,2+J1.length+J2.length+d3,rfl,⟨rfl,?_,?_,?_,g1.mono (g2.pre.trans g3.pre),(g2.back g1.pre).mono g3.pre,g3.back (g1.pre.trans g2.pre),?_,?_,?_⟩⟩
 ·exact(wy (S1:=s++(AObj.cells [.int .i64 c.now,row c.threads,row c.owners,row c.counts,x1,row c.lockq,row c.waitq,row c.downq,x2,x3] :: AObj.cells [.int .i64 c.now,row c.threads,row c.owners,row c.counts,x1,row c.lockq,row c.waitq,row c.downq,x2,x3] :: [])) (B:=J2++(J3)) r1 f1 (by simp)).eq (by simp) (by simp;omega)
 ·exact(wy (S1:=s++(AObj.cells [.int .i64 c.now,row c.threads,row c.owners,row c.counts,x1,row c.lockq,row c.waitq,row c.downq,x2,x3] :: AObj.cells [.int .i64 c.now,row c.threads,row c.owners,row c.counts,x1,row c.lockq,row c.waitq,row c.downq,x2,x3] :: (J1))) (B:=J3) r2 f2 (by simp)).eq (by simp) (by simp;omega)
 ·exact(wy (S1:=s++(AObj.cells [.int .i64 c.now,row c.threads,row c.owners,row c.counts,x1,row c.lockq,row c.waitq,row c.downq,x2,x3] :: AObj.cells [.int .i64 c.now,row c.threads,row c.owners,row c.counts,x1,row c.lockq,row c.waitq,row c.downq,x2,x3] :: (J1++(J2)))) (B:=([]:List AObj)) r3 f3 (by simp)).eq (by simp) (by simp;omega)
 ·exact⟨by omega,fun h=>by have:=f1 h;omega⟩
 ·exact⟨by omega,fun h=>by have:=f2 h;omega⟩
 ·omega
theorem zmw {l:List Int}{x:Int}(hb:l.length≤9223372036854775807):zM Tryz.prog 281 [row l,.int .i64 x] (.int .i64 (idx l x)):=by
 refine .of fun s v=>?_
 refine ac0 Tryz.func281 Tryz.ntmps281 ?_
 have hrs:Tryz.f281.results = #[.tmp 4]:=rfl
 repeat' (first|(with_reducible first|refine uk ?_|refine wk ?_ ?_<;>intro _)|simp -implicitDefEqProofs(disch:=first|assumption|omega)[*])
 refine zC (β:=Unit) false l.length (fun k _=>∀ j,j<k→nth l j≠x) (fun k _=>[(5,.int .i64 k),(6,.any),(7,.any),(8,.any),(9,.any),(12,.any),(13,.any),(14,.any),(15,.any),(16,.any),(17,.any),(18,.any),(4,.any),(10,.any),(11,.any)]) (fun _ _=>s) (fun _ _=>v) ?_ ?_
 ·exact⟨(),by simp,fz0,rfl,rfl⟩
 rintro k _ hk hI
 by_cases hlt:k<l.length
 ·have hx:=zB (l:=l) (i:=(k:Int)) (by omega) (by omega)
  by_cases he:nth l k=x
  ·have hf:idx l x=k:=uu (p:=fun y=>decide (y=x)) hlt (fun j hj=>by simpa using hI j hj) (by simpa using he)
   rw[hf]
   repeat' (first|(with_reducible first|refine uk ?_|refine wk ?_ ?_<;>intro _)|simp -implicitDefEqProofs(disch:=first|assumption|omega)[*])
   exact zn.eq rfl (by simp)
  ·repeat' (first|(with_reducible first|refine uk ?_|refine wk ?_ ?_<;>intro _)|simp -implicitDefEqProofs(disch:=first|assumption|omega)[*])
   exact⟨hlt,(),fun j hj=>by
    by_cases e:j=k
    ·subst e;exact he
    ·exact hI j (by omega),fz,rfl,rfl⟩
 ·have:k=l.length:=by omega
  subst this
  have hf:idx l x = -1:=wv (p:=fun y=>decide (y=x)) fun j hj=>by simpa using hI j hj
  rw[hf]
  repeat' (first|(with_reducible first|refine uk ?_|refine wk ?_ ?_<;>intro _)|simp -implicitDefEqProofs(disch:=first|assumption|omega)[*])
  exact zn.eq rfl (by simp)
theorem zet {c:Cor}{ch:Int}(hb:CorB c)(h0:0≤ch)(h1:ch<c.bufs.length)(h2:ch<c.sendq.length):zM Tryz.prog 300 [.agg [.int .i64 c.now,row c.threads,row c.owners,row c.counts,row c.bufs,row c.lockq,row c.waitq,row c.downq,row c.sendq,row c.recvq],.int .i64 ch] (.bool (vv c ch)):=by
 refine .of fun s v=>?_
 have hx:=zB h0 h1
 have hx2:=zB h0 h2
 have b1:=hb.bufs.2 _ (zm (k:=ch.toNat) (by omega))
 have b2:=hb.sendq.2 _ (zm (k:=ch.toNat) (by omega))
 unfold vv at'
 refine ac0 Tryz.func300 Tryz.ntmps300 ?_
 have hrs:Tryz.f300.results = #[.tmp 4]:=rfl
 repeat' (first|(with_reducible first|refine uk ?_|refine wk ?_ ?_<;>intro _)|simp -implicitDefEqProofs(disch:=first|assumption|omega)[*])
 all_goals exact zn.eqat (by simp[*]) (by simp)
end
section
attribute [local simp] Cor.lv
def uB (t:Int)(L:List (List Int))(k:Nat):List (List Int):=(L.take k).map (fun l=>l.filter fun x=>decide (x≠t))++L.drop k
theorem Yi (t:Int)(L:List (List Int))(k:Nat):(uB t L k).length=L.length:=by simp[uB];omega
theorem zbj {t:Int}{L:List (List Int)}{k:Nat}(h:k<L.length):(uB t L k).set k ((nth L k).filter fun x=>decide (x≠t))=uB t L (k+1):=by
 have hl:((L.take k).map (fun l=>l.filter fun x=>decide (x≠t))).length=k:=by simp;omega
 unfold uB
 rw[List.set_append_right _ _ (by omega),hl,Nat.sub_self,QE h,List.set_cons_zero,za h]
 simp
theorem zeT {t:Int}{l:List Int}{j:Nat}(h:j<l.length):(l.take (j+1)).filter (fun x=>decide (x≠t))=if nth l j≠t then (l.take j).filter (fun x=>decide (x≠t))++[nth l j] else (l.take j).filter (fun x=>decide (x≠t)):=by
 rw[za h,List.filter_append]
 by_cases e:nth l j=t<;>simp[e]
theorem zhm {c:Cor}{t:Int}(hb:CorB c)(hn:c.recvq.length≠0):zG Tryz.prog 298 [.agg [.int .i64 c.now,row c.threads,row c.owners,row c.counts,row c.bufs,row c.lockq,row c.waitq,row c.downq,row c.sendq,row c.recvq],.int .i64 t] (.tup [.agg (xP c t).lv,.any]):=by
 intro s v
 refine zS ?_
 have hbr:=hb.recvq
 have hbr1:=hbr.1
 refine ac0 Tryz.func298 Tryz.ntmps298 ?_
 have hrs:Tryz.f298.results = #[.cell 4 29,.tmp 5]:=rfl
 repeat' (first|(with_reducible first|refine uk ?_|refine wk ?_ ?_<;>intro _|refine zcB (Xv hb) (fun v' J xB xS xR cB cS cR dB dS dR qB qS qR ho=>?_))|simp -implicitDefEqProofs(disch:=first|assumption|omega)[*])
 replace ho:=ho.lay
 obtain⟨e1,jR,lR,nR⟩:=ho.recvq.obj hn
 have hdR:=(List.getElem?_eq_some_iff.1 jR).1
 have hw:=ho.w
 have hgR:=ho.gR
 subst e1
 clear ho
 repeat' (first|(with_reducible first|refine uk ?_|refine wk ?_ ?_<;>intro _)|simp -implicitDefEqProofs(disch:=first|assumption|omega)[*])
 refine zC (β:=List LV × List Nat) false c.recvq.length (fun k p=>v <+: p.2∧yB (uB t c.recvq k) p.1) (fun k p=>[(8,.int .i64 k),(13,.any),(14,.any),(15,.any),(16,.any),(17,.any),(9,.any),(10,.any),(20,.any),(21,.any),(22,.any),(23,.any),(24,.any),(25,.any),(26,.any),(27,.any),(30,.any),(31,.any),(32,.any),(33,.any),(34,.any),(35,.any),(36,.any),(37,.any),(38,.any),(39,.any),(40,.any),(41,.any),(42,.any),(43,.any),(44,.any),(45,.any),(46,.any),(47,.any),(48,.any),(49,.any),(50,.any),(7,.any),(28,.any),(29,.any),(51,.any),(52,.any),(53,.any),(54,.any),(55,.any),(18,.any),(19,.any)]) (fun _ p=>s++(AObj.cells [.int .i64 c.now,row c.threads,row c.owners,row c.counts,row c.bufs,row c.lockq,row c.waitq,row c.downq,row c.sendq,row c.recvq] :: AObj.cells [.int .i64 0,.nils,.nils,.nils,.nils,.nils,.nils,.nils,.nils,.nils] :: (J.set dR (.cells p.1)++[AObj.cells [.int .i64 c.now,row c.threads,row c.owners,row c.counts,xB,row c.lockq,row c.waitq,row c.downq,xS,.ref 1 (s.length+(dR+2)) 0 c.recvq.length false]]))) (fun _ p=>p.2) ?_ ?_
 ·have hself:J.set dR (.cells cR)=J:=by
   refine List.ext_getElem? fun j=>?_
   by_cases e:dR=j
   ·subst e;rw[List.getElem?_set_self hdR,jR]
   ·rw[List.getElem?_set_ne e]
  exact⟨(cR,v'),⟨hgR.pre,by simpa[uB] using hw.gR⟩,fz0,by simp[hself],rfl⟩
 rintro k ⟨cs,v1⟩ hk ⟨hv1,hcs⟩
 simp only at hv1 hcs
 by_cases hlt:k<c.recvq.length
 ·have hx:=zB (l:=c.recvq) (i:=(k:Int)) (by omega) (by omega)
  have hrl:=hbr.2 _ (zm hlt)
  have hcl:cs.length=c.recvq.length:=by rw[hcs.1,Yi]
  have hsucc:=zbj (t:=t) hlt
  have hk1:k+1≤c.recvq.length:=by omega
  have hdl:∀ X o,(J.set dR o++[X])[J.length]? = some X:=fun X o=>by rw[List.getElem?_append_right (by simp)];simp
  have hdg:∀ X cs,(J.set dR (AObj.cells cs)++[X])[dR]? = some (.cells cs):=fun X cs=>by rw[List.getElem?_append_left (by simpa using hdR),List.getElem?_set_self hdR]
  have hds:∀ X o o',(J.set dR o++[X]).set dR o'=J.set dR o'++[X]:=fun X o o'=>by rw[List.set_append_left _ _ (by simpa using hdR),List.set_set]
  generalize hro:nth c.recvq k=ro at *
  repeat' (first|(with_reducible first|refine uk ?_|refine wk ?_ ?_<;>intro _)|simp -implicitDefEqProofs(disch:=first|assumption|omega)[*])
  refine zC (β:=LV × List Nat) false ro.length (fun j p=>Gro v1 p.2 ((ro.take j).filter fun x=>decide (x≠t)) p.1) (fun j p=>[(9,p.1),(10,.int .i64 j),(20,.any),(21,.any),(22,.any),(23,.any),(24,.any),(25,.any),(26,.any),(27,.any),(30,.any),(31,.any),(32,.any),(33,.any),(34,.any),(35,.any),(36,.any),(37,.any),(38,.any),(39,.any),(40,.any),(41,.any),(42,.any),(43,.any),(44,.any),(45,.any),(46,.any),(47,.any),(48,.any),(49,.any),(50,.any),(7,.any),(28,.any),(29,.any)]) (fun _ _=>s++(AObj.cells [.int .i64 c.now,row c.threads,row c.owners,row c.counts,row c.bufs,row c.lockq,row c.waitq,row c.downq,row c.sendq,row c.recvq] :: AObj.cells [.int .i64 0,.nils,.nils,.nils,.nils,.nils,.nils,.nils,.nils,.nils] :: (J.set dR (.cells cs)++[AObj.cells [.int .i64 c.now,row c.threads,row c.owners,row c.counts,xB,row c.lockq,row c.waitq,row c.downq,xS,.ref 1 (s.length+(dR+2)) 0 c.recvq.length false]]))) (fun _ p=>p.2) ?_ ?_
  ·exact⟨(.nils,v1),Gro.nil _,fz0,rfl,rfl⟩
  rintro j ⟨x,v2⟩ hj hG
  simp only at hG
  by_cases hjl:j<ro.length
  ·have hx2:=zB (l:=ro) (i:=(j:Int)) (by omega) (by omega)
   have hfs:=zeT (t:=t) hjl
   by_cases he:nth ro j=t
   ·rw[if_neg (by simp[he])] at hfs
    repeat' (first|(with_reducible first|refine uk ?_|refine wk ?_ ?_<;>intro _)|simp -implicitDefEqProofs(disch:=first|assumption|omega)[*])
    exact⟨hjl,(x,v2),by show Gro v1 v2 _ x;rw[hfs];exact hG,fz,rfl,rfl⟩
   ·rw[if_pos he] at hfs
    have hfl:((ro.take j).filter (fun x=>decide (x≠t))).length≤1000:=by have h1:=List.length_filter_le (fun x=>decide (x≠t)) (ro.take j);rw[List.length_take] at h1;omega
    obtain⟨x2,v3,gy,_,ha⟩:=hG.push (P:=Tryz.prog) (t:=23) (t2:=23) (sz:=1) (by_:=8) (by kernel_rfl) rfl (by omega) (nth ro j) (ds:=[.int .i64 (nth ro j)]) (yh.refl _) (by simp) (by omega)
    repeat' (first|(with_reducible first|refine uk ?_|refine wk ?_ ?_<;>intro _)|simp -implicitDefEqProofs(disch:=first|assumption|omega)[*])
    exact⟨hjl,(x2,v3),by show Gro v1 v3 _ x2;rw[hfs];exact gy,fz,rfl,rfl⟩
  ·have:j=ro.length:=by omega
   subst this
   rw[List.take_of_length_le (Nat.le_refl _)] at hG
   have hxc:=hG.cells
   repeat' (first|(with_reducible first|refine uk ?_|refine wk ?_ ?_<;>intro _)|simp -implicitDefEqProofs(disch:=first|assumption|omega)[*])
   exact⟨hlt,(cs.set k x,v2),⟨hv1.trans hG.pre,by show yB (uB t c.recvq (k+1)) _;rw[← hsucc];exact hcs.put hG.weak (hG.under 0)⟩,fz,by simp[hds],rfl⟩
 ·have:k=c.recvq.length:=by omega
  subst this
  have hdl:∀ X o,(J.set dR o++[X])[J.length]? = some X:=fun X o=>by rw[List.getElem?_append_right (by simp)];simp
  repeat' (first|(with_reducible first|refine uk ?_|refine wk ?_ ?_<;>intro _)|simp -implicitDefEqProofs(disch:=first|assumption|omega)[*])
  rw[show xP c t = {c with recvq:=uB t c.recvq c.recvq.length } from by simp[xP,uB]]
  exact .tup _ _ (.cons _ _ _ _ (((hw.setR hn (L:=uB t c.recvq c.recvq.length) (cs:=cs) (Yi _ _ _) hcs).more _).box _ _).deep (.cons _ _ _ _ (.keep _ rfl) .nil))
end
end Go.Hb
end
