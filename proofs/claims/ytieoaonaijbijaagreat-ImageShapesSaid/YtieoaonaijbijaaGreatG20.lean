/-
  A layer for reasoning about the program's calls, and contracts of its functions. CONDITIONS: none; each theorem bears its own.
-/
import Derived.Test.YtieoaonaijbijaaGreatG19
import Derived.Test.YtieoaonaijbijaaGreatG07
import Derived.Test.YtieoaonaijbijaaGreatG17
set_option linter.unusedVariables false
set_option linter.unusedSimpArgs false
section
namespace Go.Hb
open Go Go.Proofs Go.RowKit
set_option maxRecDepth 100000
set_option maxHeartbeats 800000
attribute [-simp] aC aL xq yp zE aIf yr zR aLen zt ya zQ zP lBr aq yP aev zk zw zF zI LV.cells LV.cellsOk getElem?_pos getElem?_neg
section
attribute [local simp] Cor.lv
theorem zla {c:Cor}{ch room t x:Int}(hb:CorB c)(h0:0≤ch)(h1:ch<c.bufs.length)(h2:ch<c.sendq.length)(h3:ch<c.recvq.length) :
  zG Tryz.prog 280 [.agg [.int .i64 c.now,row c.threads,row c.owners,row c.counts,row c.bufs,row c.lockq,row c.waitq,row c.downq,row c.sendq,row c.recvq],.int .i64 ch,.int .i64 room,.int .i64 t,.int .i64 x] (.tup [.agg (xM c ch room t x).1.lv,.int .i64 (xM c ch room t x).2.1,.bool (xM c ch room t x).2.2]):=by
 intro s v
 refine zS ?_
 have hx3:=zB h0 h3
 have b3:=hb.recvq.2 _ (zm (k:=ch.toNat) (by omega:ch.toNat<c.recvq.length))
 by_cases hr:0<(nth c.recvq ch.toNat).length
 ·have hs:xM c ch room t x=(xP c (nth (nth c.recvq ch.toNat) 0),nth (nth c.recvq ch.toNat) 0,true):=by unfold xM at';rw[if_pos hr]
  rw[hs]
  have hx0:=zB (l:=nth c.recvq ch.toNat) (i:=0) (by omega) (by omega)
  have hc:=zhm (t:=nth (nth c.recvq ch.toNat) 0) hb (by omega)
  clear hs
  generalize xP c (nth (nth c.recvq ch.toNat) 0)=u at *
  simp only[Cor.lv] at hc
  refine ac0 Tryz.func280 Tryz.ntmps280 ?_
  have hrs:Tryz.f280.results = #[.cell 10 29,.tmp 11,.tmp 12]:=rfl
  repeat' (first|(with_reducible first|refine uk ?_|refine wk ?_ ?_<;>intro _|(refine dr P280 mixed ?_ ?_ ?_;kernel_rfl;kernel_rfl)|refine zg hc (fun v1 hv1=>?_))|simp -implicitDefEqProofs(disch:=first|assumption|omega)[*])
  exact .keep _ (by simp[LV.under,zH])
 have b1:=hb.bufs.2 _ (zm (k:=ch.toNat) (by omega:ch.toNat<c.bufs.length))
 have b2:=hb.sendq.2 _ (zm (k:=ch.toNat) (by omega:ch.toNat<c.sendq.length))
 refine ac0 Tryz.func280 Tryz.ntmps280 ?_
 have hrs:Tryz.f280.results = #[.cell 10 29,.tmp 11,.tmp 12]:=rfl
 repeat' (first|(with_reducible first|refine uk ?_|refine wk ?_ ?_<;>intro _|(refine dr P280 mixed ?_ ?_ ?_;kernel_rfl;kernel_rfl)|refine zcB (Xv hb) (fun v' J xB xS xR cB cS cR dB dS dR qB qS qR ho=>?_))|simp -implicitDefEqProofs(disch:=first|assumption|omega)[*])
 replace ho:=ho.lay
 obtain⟨e1,jB,lB,nB⟩:=ho.bufs.obj (by omega)
 obtain⟨e2,jS,lS,nS⟩:=ho.sendq.obj (by omega)
 have hw:=ho.w
 have hgB:=ho.gB
 have hgS:=ho.gS
 subst e1 e2
 clear ho
 obtain⟨y,gy1,gy2⟩:=hgB.at_ ch.toNat (by omega)
 obtain⟨z,gz1,gz2⟩:=hgS.at_ ch.toNat (by omega)
 have hyc:=gy2.gro.cells
 have hzc:=gz2.gro.cells
 have hyl:=gy2.gro.len (P:=Tryz.prog) (t:=23) (by kernel_rfl)
 have hm1:ch.toNat+1≤c.bufs.length:=by omega
 have hm2:ch.toNat+1≤c.sendq.length:=by omega
 obtain⟨y2,v2,gy,_,ha⟩:=gy2.push (P:=Tryz.prog) (t:=23) (t2:=23) (sz:=1) (by_:=8) (by kernel_rfl) rfl (by omega) x (by omega)
 obtain⟨z2,v3,gz,_,ha2⟩:=gz2.push2 (P:=Tryz.prog) (t:=23) (t2:=23) (by_:=8) (by kernel_rfl) (by omega) t x (by omega)
 simp only[yG] at ha
 have hyc2:=gy.gro.cells
 have hzc2:=gz.gro.cells
 by_cases hrm:((nth c.bufs ch.toNat).length:Int)<room
 ·have hs:xM c ch room t x=({c with bufs:=c.bufs.set ch.toNat (nth c.bufs ch.toNat++[x]) }, -1,true):=by unfold xM at';rw[if_neg hr,if_pos hrm]
  rw[hs]
  clear hs
  have hpre:=gy.1
  repeat' (first|(with_reducible first|refine uk ?_|refine wk ?_ ?_<;>intro _|(refine dr P280 mixed ?_ ?_ ?_;kernel_rfl;kernel_rfl))|simp -implicitDefEqProofs(disch:=first|assumption|omega)[*])
  exact .tup _ _ (.cons _ _ _ _ ((hw.setB (by omega) (L:=c.bufs.set ch.toNat (nth c.bufs ch.toNat++[x])) (cs:=cB.set ch.toNat y2) (by simp) (hgB.weak.put gy.gro.weak (gy.gro.under 0))).box _ _).deep (.cons _ _ _ _ (.keep _ rfl) (.cons _ _ _ _ (.keep _ rfl) .nil)))
 ·have hs:xM c ch room t x=({c with sendq:=c.sendq.set ch.toNat (nth c.sendq ch.toNat++[t,x]) }, -1,false):=by unfold xM at';rw[if_neg hr,if_neg hrm]
  rw[hs]
  clear hs
  have hpre:=gz.1
  repeat' (first|(with_reducible first|refine uk ?_|refine wk ?_ ?_<;>intro _|(refine dr P280 mixed ?_ ?_ ?_;kernel_rfl;kernel_rfl))|simp -implicitDefEqProofs(disch:=first|assumption|omega)[*])
  exact .tup _ _ (.cons _ _ _ _ ((hw.setS (by omega) (L:=c.sendq.set ch.toNat (nth c.sendq ch.toNat++[t,x])) (cs:=cS.set ch.toNat z2) (by simp) (hgS.weak.put gz.gro.weak (gz.gro.under 0))).box _ _).deep (.cons _ _ _ _ (.keep _ rfl) (.cons _ _ _ _ (.keep _ rfl) .nil)))
end
section
attribute [local simp] Cor.lv
theorem zig {c:Cor}{ch t:Int}(hb:CorB c)(h0:0≤ch)(h1:ch<c.bufs.length)(h2:ch<c.sendq.length)(h3:ch<c.recvq.length)(h4:0<(nth c.sendq ch.toNat).length→2≤(nth c.sendq ch.toNat).length) :
  zG Tryz.prog 282 [.agg [.int .i64 c.now,row c.threads,row c.owners,row c.counts,row c.bufs,row c.lockq,row c.waitq,row c.downq,row c.sendq,row c.recvq],.int .i64 ch,.int .i64 t] (.tup [.agg (yN c ch t).1.lv,.int .i64 (yN c ch t).2.1,.int .i64 (yN c ch t).2.2.1,.bool (yN c ch t).2.2.2]):=by
 intro s v
 refine zS ?_
 have b1:=hb.bufs.2 _ (zm (k:=ch.toNat) (by omega:ch.toNat<c.bufs.length))
 have b2:=hb.sendq.2 _ (zm (k:=ch.toNat) (by omega:ch.toNat<c.sendq.length))
 have b3:=hb.recvq.2 _ (zm (k:=ch.toNat) (by omega:ch.toNat<c.recvq.length))
 have hm1:ch.toNat+1≤c.bufs.length:=by omega
 have hm2:ch.toNat+1≤c.sendq.length:=by omega
 have hm3:ch.toNat+1≤c.recvq.length:=by omega
 refine ac0 Tryz.func282 Tryz.ntmps282 ?_
 have hrs:Tryz.f282.results = #[.cell 6 29,.tmp 7,.tmp 8,.tmp 9]:=rfl
 repeat' (first|(with_reducible first|refine uk ?_|refine wk ?_ ?_<;>intro _|(refine dr P282 mixed ?_ ?_ ?_;kernel_rfl;kernel_rfl)|refine zcB (Xv hb) (fun v' J xB xS xR cB cS cR dB dS dR qB qS qR ho=>?_))|simp -implicitDefEqProofs(disch:=first|assumption|omega)[*])
 replace ho:=ho.lay
 obtain⟨e1,jB,lB,nB⟩:=ho.bufs.obj (by omega)
 obtain⟨e2,jS,lS,nS⟩:=ho.sendq.obj (by omega)
 obtain⟨e3,jR,lR,nR⟩:=ho.recvq.obj (by omega)
 have hw:=ho.w
 have hgB:=ho.gB
 have hgS:=ho.gS
 have hgR:=ho.gR
 subst e1 e2 e3
 clear ho
 obtain⟨y,gy1,gy2⟩:=hgB.at_ ch.toNat (by omega)
 obtain⟨z,gz1,gz2⟩:=hgS.at_ ch.toNat (by omega)
 obtain⟨w,gw1,gw2⟩:=hgR.at_ ch.toNat (by omega)
 have hyc:=gy2.gro.cells
 have hzc:=gz2.gro.cells
 have hwc:=gw2.gro.cells
 have hyl:=gy2.gro.len (P:=Tryz.prog) (t:=23) (by kernel_rfl)
 have hzl:=gz2.gro.len (P:=Tryz.prog) (t:=23) (by kernel_rfl)
 have hyi:=fun i=>gy2.ix (P:=Tryz.prog) (t:=23) (κ:=.i64) (i:=i)
 have hzi:=fun i=>gz2.ix (P:=Tryz.prog) (t:=23) (κ:=.i64) (i:=i)
 have hpre:=hgB.pre
 by_cases hB:0<(nth c.bufs ch.toNat).length
 ·have hy0:=zB (l:=nth c.bufs ch.toNat) (i:=0) (by omega) (by omega)
  obtain⟨y2,hs1,gy3⟩:=gy2.slice (P:=Tryz.prog) (t:=23) (a:=1) (by simp) (by omega) (by omega)
  simp only[show (1:Int).toNat=1 from rfl,List.drop_one] at gy3
  have hyc2:=gy3.gro.cells
  have hwB:=hw.setB (by omega) (L:=c.bufs.set ch.toNat (nth c.bufs ch.toNat).tail) (cs:=cB.set ch.toNat y2) (by simp) (hgB.weak.put gy3.gro.weak (gy3.gro.under 0))
  have jS1:=(hwB.sendq.obj (by show c.sendq.length≠0;omega)).2.1
  by_cases hS:0<(nth c.sendq ch.toNat).length
  ·have hl2:=h4 hS
   have hr:yN c ch t=({c with bufs:=c.bufs.set ch.toNat ((nth c.bufs ch.toNat).tail++[nth (nth c.sendq ch.toNat) 1]),sendq:=c.sendq.set ch.toNat ((nth c.sendq ch.toNat).drop 2) },nth (nth c.bufs ch.toNat) 0,nth (nth c.sendq ch.toNat) 0,true):=by unfold yN at';rw[if_pos hB,if_pos hS,List.drop_one]
   rw[hr]
   clear hr
   have hz0:=zB (l:=nth c.sendq ch.toNat) (i:=0) (by omega) (by omega)
   have hz1:=zB (l:=nth c.sendq ch.toNat) (i:=1) (by omega) (by omega)
   obtain⟨z2,hs2,gz3⟩:=gz2.slice (P:=Tryz.prog) (t:=23) (a:=2) (by simp) (by omega) (by omega)
   simp only[show (2:Int).toNat=2 from rfl] at gz3
   have hzc2:=gz3.gro.cells
   obtain⟨y4,v4,gy4,_,ha⟩:=gy3.push (P:=Tryz.prog) (t:=23) (t2:=23) (sz:=1) (by_:=8) (by kernel_rfl) rfl (by omega) (nth (nth c.sendq ch.toNat) 1) (by simp;omega)
   simp only[yG] at ha
   have hyc4:=gy4.gro.cells
   have hpre4:=gy4.1
   have hcb:(cB.set ch.toNat y2)[ch.toNat]? = some y2:=by rw[List.getElem?_set_self (by rw[lB];omega)]
   have hcl:ch.toNat+1≤(cB.set ch.toNat y2).length:=by simp[lB];omega
   have jB1:=(hwB.bufs.obj (by show (c.bufs.set _ _).length≠0;rw[List.length_set];omega)).2.1
   have hwB2:=hw.setB (by omega) (L:=c.bufs.set ch.toNat ((nth c.bufs ch.toNat).tail++[nth (nth c.sendq ch.toNat) 1])) (cs:=cB.set ch.toNat y4) (by simp) (hgB.weak.put gy4.gro.weak (gy4.gro.under 0))
   have jS2:=(hwB2.sendq.obj (by show c.sendq.length≠0;omega)).2.1
   have hwS:=hwB2.setS (by show c.sendq.length≠0;omega) (L:=c.sendq.set ch.toNat ((nth c.sendq ch.toNat).drop 2)) (cs:=cS.set ch.toNat z2) (by simp) (hgS.weak.put gz3.gro.weak (gz3.gro.under 0))
   repeat' (first|(with_reducible first|refine uk ?_|refine wk ?_ ?_<;>intro _|(refine dr P282 mixed ?_ ?_ ?_;kernel_rfl;kernel_rfl))|simp -implicitDefEqProofs(disch:=first|assumption|omega)[*])
   exact .tup _ _ (.cons _ _ _ _ (hwS.box _ _).deep (.cons _ _ _ _ (.keep _ rfl) (.cons _ _ _ _ (.keep _ rfl) (.cons _ _ _ _ (.keep _ rfl) .nil))))
  ·have hr:yN c ch t=({c with bufs:=c.bufs.set ch.toNat (nth c.bufs ch.toNat).tail },nth (nth c.bufs ch.toNat) 0, -1,true):=by unfold yN at';rw[if_pos hB,if_neg hS,List.drop_one]
   rw[hr]
   clear hr
   repeat' (first|(with_reducible first|refine uk ?_|refine wk ?_ ?_<;>intro _|(refine dr P282 mixed ?_ ?_ ?_;kernel_rfl;kernel_rfl))|simp -implicitDefEqProofs(disch:=first|assumption|omega)[*])
   exact .tup _ _ (.cons _ _ _ _ (hwB.box _ _).deep (.cons _ _ _ _ (.keep _ rfl) (.cons _ _ _ _ (.keep _ rfl) (.cons _ _ _ _ (.keep _ rfl) .nil))))
 by_cases hS:0<(nth c.sendq ch.toNat).length
 ·have hl2:=h4 hS
  have hr:yN c ch t=({c with sendq:=c.sendq.set ch.toNat ((nth c.sendq ch.toNat).drop 2) },nth (nth c.sendq ch.toNat) 1,nth (nth c.sendq ch.toNat) 0,true):=by unfold yN at';rw[if_neg hB,if_pos hS]
  rw[hr]
  clear hr
  have hz0:=zB (l:=nth c.sendq ch.toNat) (i:=0) (by omega) (by omega)
  have hz1:=zB (l:=nth c.sendq ch.toNat) (i:=1) (by omega) (by omega)
  obtain⟨z2,hs1,gz3⟩:=gz2.slice (P:=Tryz.prog) (t:=23) (a:=2) (by simp) (by omega) (by omega)
  simp only[show (2:Int).toNat=2 from rfl] at gz3
  have hzc2:=gz3.gro.cells
  repeat' (first|(with_reducible first|refine uk ?_|refine wk ?_ ?_<;>intro _|(refine dr P282 mixed ?_ ?_ ?_;kernel_rfl;kernel_rfl))|simp -implicitDefEqProofs(disch:=first|assumption|omega)[*])
  exact .tup _ _ (.cons _ _ _ _ ((hw.setS (by omega) (L:=c.sendq.set ch.toNat ((nth c.sendq ch.toNat).drop 2)) (cs:=cS.set ch.toNat z2) (by simp) (hgS.weak.put gz3.gro.weak (gz3.gro.under 0))).box _ _).deep (.cons _ _ _ _ (.keep _ rfl) (.cons _ _ _ _ (.keep _ rfl) (.cons _ _ _ _ (.keep _ rfl) .nil))))
 ·have hr:yN c ch t=({c with recvq:=c.recvq.set ch.toNat (nth c.recvq ch.toNat++[t]) },0, -1,false):=by unfold yN at';rw[if_neg hB,if_neg hS]
  rw[hr]
  clear hr
  obtain⟨w2,v2,gw,_,ha⟩:=gw2.push (P:=Tryz.prog) (t:=23) (t2:=23) (sz:=1) (by_:=8) (by kernel_rfl) rfl (by omega) t (by omega)
  simp only[yG] at ha
  have hwc2:=gw.gro.cells
  have hpre2:=gw.1
  repeat' (first|(with_reducible first|refine uk ?_|refine wk ?_ ?_<;>intro _|(refine dr P282 mixed ?_ ?_ ?_;kernel_rfl;kernel_rfl))|simp -implicitDefEqProofs(disch:=first|assumption|omega)[*])
  exact .tup _ _ (.cons _ _ _ _ ((hw.setR (by omega) (L:=c.recvq.set ch.toNat (nth c.recvq ch.toNat++[t])) (cs:=cR.set ch.toNat w2) (by simp) (hgR.weak.put gw.gro.weak (gw.gro.under 0))).box _ _).deep (.cons _ _ _ _ (.keep _ rfl) (.cons _ _ _ _ (.keep _ rfl) (.cons _ _ _ _ (.keep _ rfl) .nil))))
end
section
attribute [local simp] Cor.lv
theorem XX {q:List (List Int)}{l:List Int}{t:Int}{k:Nat}(h:k<l.length):yt q (l.take (k+1)) t=(yt q (l.take k) t).set (nth l k).toNat (at' (yt q (l.take k) t) (nth l k)++[t]):=by
 unfold yt;rw[za h,List.foldl_append];rfl
theorem Zg (q:List (List Int))(t:Int):∀ (l:List Int),(yt q l t).length=q.length:=by
 intro l
 induction l generalizing q with
 | nil=>rfl
 | cons a l ih=>show (yt (q.set _ _) l t).length=_;rw[ih];simp
theorem Zc (t:Int):∀ (l:List Int) (q:List (List Int)) (B:Nat),(∀ r∈q,r.length≤B)→(∀ x∈l,x.toNat<q.length)→∀ r∈yt q l t,r.length≤B+l.length
 | [],q,B,h,_,r,hr=>by have:=h r hr;simp;omega
 | a :: l,q,B,h,hx,r,hr=>by
  have h2:=Zc t l (q.set a.toNat (at' q a++[t])) (B+1) (fun r hr=>by
   rcases List.mem_or_eq_of_mem_set hr with hr | rfl
   ·have:=h r hr;omega
   ·have:=h _ (zm (hx a (by simp)));simp[at'];omega) (fun x hx'=>by simpa using hx x (by simp[hx'])) r hr
  simp at h2 ⊢;omega
theorem zjD {α : Type}[Enc α]{p:α→Bool}{l:List α}{k:Nat}(h:k<l.length)(h1:∀ j,j<k→p (nth l j)=false)(h2:p (nth l k)=true):l.findIdx? p=some k:=by
 rw[List.findIdx?_eq_some_iff_getElem]
 refine⟨h,by rw[← zK h];exact h2,fun j hj=>?_⟩
 rw[← zK (by omega),h1 j hj];simp
theorem zeO {α : Type}[Enc α]{p:α→Bool}{l:List α}(h1:∀ j,j<l.length→p (nth l j)=false):l.findIdx? p=none:=by
 rw[List.findIdx?_eq_none_iff]
 intro x hx
 obtain⟨j,hj,rfl⟩:=List.getElem_of_mem hx
 rw[← zK hj];exact h1 j hj
theorem zgj {c:Cor}{l:List Int}{t:Int}(hb:CorB c)(hl:l.length≤8)(hin:∀ x∈l,0≤x∧x<c.bufs.length)(e1:c.bufs.length≤c.sendq.length)(e2:c.bufs.length≤c.recvq.length)(hn:c.bufs.length≠0)
  (h4:∀ k,k<c.sendq.length→0<(nth c.sendq k).length→2≤(nth c.sendq k).length) (h5:∀ r∈c.recvq,r.length≤100) :
  zG Tryz.prog 283 [.agg [.int .i64 c.now,row c.threads,row c.owners,row c.counts,row c.bufs,row c.lockq,row c.waitq,row c.downq,row c.sendq,row c.recvq],row l,.int .i64 t] (.tup [.agg (yI c l t).1.lv,.int .i64 (yI c l t).2.1,.int .i64 (yI c l t).2.2.1,.int .i64 (yI c l t).2.2.2.1,.bool (yI c l t).2.2.2.2]):=by
 intro s v
 refine zS ?_
 refine ac0 Tryz.func283 Tryz.ntmps283 ?_
 have hrs:Tryz.f283.results = #[.cell 6 29,.tmp 7,.tmp 8,.tmp 9,.tmp 10]:=rfl
 repeat' (first|(with_reducible first|refine uk ?_|refine wk ?_ ?_<;>intro _|(refine dr P283 mixed ?_ ?_ ?_;kernel_rfl;kernel_rfl))|simp -implicitDefEqProofs(disch:=first|assumption|omega)[*])
 refine zC (β:=Unit) false l.length (fun k _=>∀ j,j<k→vv c (nth l j)=false) (fun k _=>[(11,.int .i64 k),(18,.any),(19,.any),(20,.any),(21,.any),(24,.any),(25,.any),(26,.any),(27,.any),(28,.any),(29,.any),(12,.any),(30,.any),(32,.any),(33,.any),(34,.any),(35,.any),(36,.any),(37,.any),(38,.any),(31,.any),(39,.any),(40,.any),(41,.any),(42,.any),(13,.any),(14,.any),(15,.any),(16,.any),(43,.any),(44,.any),(45,.any),(46,.any),(7,.any),(8,.any),(9,.any),(10,.any),(22,.any),(23,.any)]) (fun _ _=>s++[AObj.cells [.int .i64 c.now,row c.threads,row c.owners,row c.counts,row c.bufs,row c.lockq,row c.waitq,row c.downq,row c.sendq,row c.recvq],AObj.cells [.int .i64 0,.nils,.nils,.nils,.nils,.nils,.nils,.nils,.nils,.nils]]) (fun _ _=>v) ?_ ?_
 ·exact⟨(),by simp,fz0,rfl,rfl⟩
 rintro k _ hk hI
 by_cases hlt:k<l.length
 ·obtain⟨hi0,hi1⟩:=hin _ (zm hlt)
  have hx:=zB (l:=l) (i:=(k:Int)) (by omega) (by omega)
  have hr:=zet hb hi0 hi1 (by omega)
  cases hrd:vv c (nth l k)
  ·rw[hrd] at hr
   repeat' (first|(with_reducible first|refine uk ?_|refine wk ?_ ?_<;>intro _|(refine dr P283 mixed ?_ ?_ ?_;kernel_rfl;kernel_rfl)|refine andC ?_ ?_|refine zc hr ?_)|simp -implicitDefEqProofs(disch:=first|assumption|omega)[*])
   exact⟨hlt,(),fun j hj=>by
    by_cases e:j=k
    ·subst e;exact hrd
    ·exact hI j (by omega),fz,rfl,rfl⟩
  ·rw[hrd] at hr
   have hs:yI c l t=((yN c (nth l k) t).1,(k:Int),(yN c (nth l k) t).2.1,(yN c (nth l k) t).2.2.1,true):=by unfold yI;rw[zjD hlt hI hrd]
   rw[hs]
   have hc:=zig (t:=t) hb hi0 hi1 (by omega) (by omega) (h4 _ (by omega))
   generalize yN c (nth l k) t=u at *
   simp only[Cor.lv] at hc
   clear hs
   repeat' (first|(with_reducible first|refine uk ?_|refine wk ?_ ?_<;>intro _|(refine dr P283 mixed ?_ ?_ ?_;kernel_rfl;kernel_rfl)|refine andC ?_ ?_|refine zc hr ?_|refine zg hc (fun v1 hv1=>?_))|simp -implicitDefEqProofs(disch:=first|assumption|omega)[*])
   all_goals exact .keep _ (by simp[LV.under,zH])
 ·have:k=l.length:=by omega
  subst this
  have hs:yI c l t=({c with recvq:=yt c.recvq l t }, -1,0, -1,false):=by unfold yI;rw[zeO hI]
  rw[hs]
  clear hs hI
  repeat' (first|(with_reducible first|refine uk ?_|refine wk ?_ ?_<;>intro _|(refine dr P283 mixed ?_ ?_ ?_;kernel_rfl;kernel_rfl)|refine andC ?_ ?_|refine zcB (Xv hb) (fun v' J xB xS xR cB cS cR dB dS dR qB qS qR ho=>?_))|simp -implicitDefEqProofs(disch:=first|assumption|omega)[*])
  replace ho:=ho.lay
  obtain⟨er,jR,lR,nR⟩:=ho.recvq.obj (by omega)
  have hdR:=(List.getElem?_eq_some_iff.1 jR).1
  have hw:=ho.w
  have hgR:=ho.gR
  subst er
  clear ho
  repeat' (first|(with_reducible first|refine uk ?_|refine wk ?_ ?_<;>intro _|(refine dr P283 mixed ?_ ?_ ?_;kernel_rfl;kernel_rfl))|simp -implicitDefEqProofs(disch:=first|assumption|omega)[*])
  refine zC (β:=List LV × List Nat) false l.length (fun k p=>ListsG v p.2 (yt c.recvq (l.take k) t) p.1) (fun k p=>[(17,.int .i64 k),(49,.any),(50,.any),(51,.any),(52,.any),(55,.any),(56,.any),(57,.any),(58,.any),(59,.any),(60,.any),(61,.any),(62,.any),(63,.any),(64,.any),(65,.any),(66,.any),(67,.any),(68,.any),(69,.any),(70,.any),(71,.any),(72,.any),(53,.any),(54,.any)]) (fun _ p=>s++(AObj.cells [.int .i64 c.now,row c.threads,row c.owners,row c.counts,xB,row c.lockq,row c.waitq,row c.downq,xS,.ref 1 (s.length+(dR+2)) 0 c.recvq.length false] :: AObj.cells [.int .i64 0,.nils,.nils,.nils,.nils,.nils,.nils,.nils,.nils,.nils] :: J.set dR (.cells p.1))) (fun _ p=>p.2) ?_ ?_
  ·have hself:J.set dR (.cells cR)=J:=by
    refine List.ext_getElem? fun j=>?_
    by_cases e:dR=j
    ·subst e;rw[List.getElem?_set_self hdR,jR]
    ·rw[List.getElem?_set_ne e]
   exact⟨(cR,v'),by simpa[yt] using hgR,fz0,by simp[hself],rfl⟩
  rintro k ⟨cs,v1⟩ hk hG
  simp only at hG
  by_cases hlt:k<l.length
  ·obtain⟨hi0,hi1⟩:=hin _ (zm hlt)
   have hx:=zB (l:=l) (i:=(k:Int)) (by omega) (by omega)
   have hlen:=Zg c.recvq t (l.take k)
   have hrow:=Zc t (l.take k) c.recvq 100 h5 (fun x hx=>by have:=hin x (List.mem_of_mem_take hx);omega) _ (zm (k:=(nth l k).toNat) (by rw[hlen];omega))
   obtain⟨y,y2,v2,hy1,hy2,hy3,hG2,ha⟩:=hG.push (P:=Tryz.prog) (t:=23) (t2:=23) (by_:=8) (by kernel_rfl) (by omega) (k:=(nth l k).toNat) (by rw[hlen];omega) t (by simp at hrow;omega)
   have hcl:cs.length=c.recvq.length:=by rw[hG.len,hlen]
   have hm:(nth l k).toNat+1≤c.recvq.length:=by omega
   have hm':nth l k<c.recvq.length:=by omega
   have hdg:∀ cs,(J.set dR (AObj.cells cs))[dR]? = some (.cells cs):=fun cs=>by rw[List.getElem?_set_self hdR]
   have hsucc:=XX (q:=c.recvq) (t:=t) hlt
   repeat' (first|(with_reducible first|refine uk ?_|refine wk ?_ ?_<;>intro _|(refine dr P283 mixed ?_ ?_ ?_;kernel_rfl;kernel_rfl))|simp -implicitDefEqProofs(disch:=first|assumption|omega)[*])
   exact⟨hlt,(cs.set (nth l k).toNat y2,v2),by show ListsG v v2 (yt c.recvq (l.take (k+1)) t) _;rw[hsucc];exact hG2,fz,by simp,rfl⟩
  ·have:k=l.length:=by omega
   subst this
   rw[List.take_of_length_le (Nat.le_refl _)] at hG
   have hpre:=hG.pre
   repeat' (first|(with_reducible first|refine uk ?_|refine wk ?_ ?_<;>intro _|(refine dr P283 mixed ?_ ?_ ?_;kernel_rfl;kernel_rfl))|simp -implicitDefEqProofs(disch:=first|assumption|omega)[*])
   exact .tup _ _ (.cons _ _ _ _ ((hw.setR (by omega) (L:=yt c.recvq l t) (cs:=cs) (Zg _ _ _) hG.weak).box _ _).deep (.cons _ _ _ _ (.keep _ rfl) (.cons _ _ _ _ (.keep _ rfl) (.cons _ _ _ _ (.keep _ rfl) (.cons _ _ _ _ (.keep _ rfl) .nil)))))
end
section
attribute [local simp] Cor.lv Thr.lv
theorem zao {c:Cor}{t:Int}{x:Thr}(hb:c.threads.length≤1000)(h0:0≤t)(h1:t<c.threads.length):zM Tryz.prog 198 [.agg [.int .i64 c.now,row c.threads,row c.owners,row c.counts,row c.bufs,row c.lockq,row c.waitq,row c.downq,row c.sendq,row c.recvq],.int .i64 t,.agg [.int .i64 x.state,.int .i64 x.on,row x.frames,row x.stack,.int .i64 x.code]] (.agg (yd c t x).lv):=by
 intro s v
 refine zS ?_
 have hne:c.threads≠[]:=by intro e;rw[e] at h1;simp at h1;omega
 have hn0:c.threads.length≠0:=fun e=>hne (List.length_eq_zero_iff.1 e)
 obtain⟨xT,JT,ha,hJ⟩:=Jv (P:=Tryz.prog) (t:=27) (t2:=27) (sz:=5) (by_:=72) (by kernel_rfl) rfl (by omega) (l:=c.threads) (by unfold maxLen;omega) (by omega) (s++[AObj.cells [.int .i64 c.now,row c.threads,row c.owners,row c.counts,row c.bufs,row c.lockq,row c.waitq,row c.downq,row c.sendq,row c.recvq],AObj.cells [.int .i64 x.state,.int .i64 x.on,row x.frames,row x.stack,.int .i64 x.code],AObj.cells [.int .i64 0,.nils,.nils,.nils,.nils,.nils,.nils,.nils,.nils,.nils]])
 obtain⟨_,rfl,rfl⟩:=hJ.resolve_left fun h=>hne h.1
 clear hJ
 have hset:=zeA c.threads t.toNat x (by omega)
 have hle:t.toNat*5+5≤(zd c.threads).length:=by rw[zY];simp;omega
 have hle2:t.toNat*5+5≤c.threads.length*5:=by omega
 simp only[wq] at hset
 refine ac1 Tryz.func198 Tryz.ntmps198 ?_
 have hrs:Tryz.f198.results = #[.cell 6 29]:=rfl
 repeat' (first|(with_reducible first|refine uk ?_|refine wk ?_ ?_<;>intro _)|simp -implicitDefEqProofs(disch:=first|assumption|omega)[*])
 have hel:(c.threads.set t.toNat x).length=c.threads.length:=List.length_set
 refine .agg _ _ (.cons _ _ _ _ (.keep _ rfl) (.cons _ _ _ _ ?_ (ul _ (by simp[zH,yd]))))
 rw[← hel]
 exact DeepV.ref_row (α:=Thr) (by omega) (by rw[zL];rfl) (xe (by simp) (by intro e;rw[e] at hel;simp at hel;omega))
theorem zgo {x:Xs}{k t n:Int}(hb:x.seen.length≤100000):zG Tryz.prog 253 [.agg x.lv,.int .i64 k,.int .i64 t,.int .i64 n] (.agg (seeX x k t n).lv):=by
 refine .of fun s v=>?_
 obtain⟨p,c,xt,seen,woken⟩:=x
 simp only at hb
 simp only[Xs.lv,Prog.lv,Cor.lv,List.cons_append,List.nil_append,seeX]
 obtain⟨x1,v1,g1,_,ga⟩:=(GroE.nil v (α:=Evt)).appr (P:=Tryz.prog) (t:=65) (t2:=65) (by_:=24) (by kernel_rfl) (by omega) seen (by simp;omega)
 obtain⟨x2,v2,g2,_,gb⟩:=g1.push (P:=Tryz.prog) (t:=65) (t2:=65) (sz:=3) (by_:=24) (by kernel_rfl) rfl (by omega) ⟨k,t,n⟩ (by simp;omega)
 simp only[zjB] at gb
 have c1:=g1.gro.cells
 have c2:=g2.gro.cells
 simp only[List.nil_append] at g2
 refine ac0 Tryz.func253 Tryz.ntmps253 ?_
 have hrs:Tryz.f253.results = #[.cell 8 226]:=rfl
 repeat' (first|(with_reducible first|refine uk ?_|refine wk ?_ ?_<;>intro _)|simp -implicitDefEqProofs(disch:=first|assumption|omega)[*])
 have hu:=g2.gro.under
 exact Ends.at (by simp[hu]) (Weak.agg ⟨Weak.refl _,Weak.refl _,Weak.refl _,Weak.refl _,Weak.refl _,Weak.refl _,Weak.refl _,Weak.refl _,Weak.refl _,Weak.refl _,Weak.refl _,Weak.refl _,Weak.refl _,Weak.refl _,Weak.refl _,Weak.refl _,Weak.refl _,Weak.refl _,g2.gro.weak,Weak.refl _,trivial⟩) g2.1
theorem Qn {x:Xs}{t st on:Int}(hb:x.c.threads.length≤1000)(h0:0≤t)(h1:t<x.c.threads.length):zG Tryz.prog 248 [.agg x.lv,.int .i64 t,.int .i64 st,.int .i64 on] (.agg (yj x t st on).lv):=by
 refine .of fun s v=>?_
 obtain⟨p,c,xt,seen,woken⟩:=x
 simp only at hb h0 h1
 have hx:=zB h0 h1
 have hw:=zao (c:=c) (t:=t) (x:={at' c.threads t with state:=st,on:=on }) hb h0 h1
 simp only[Xs.lv,Prog.lv,yj,List.cons_append,List.nil_append]
 simp only[at'] at hw ⊢
 generalize yd c t {nth c.threads t.toNat with state:=st,on:=on } = c2 at *
 simp only[Cor.lv,List.cons_append,List.nil_append] at hw ⊢
 refine ac0 Tryz.func248 Tryz.ntmps248 ?_
 have hrs:Tryz.f248.results = #[.cell 8 226]:=rfl
 repeat' (first|(with_reducible first|refine uk ?_|refine wk ?_ ?_<;>intro _|refine zc hw ?_)|simp -implicitDefEqProofs(disch:=first|assumption|omega)[*])
 exact Ends.eqat rfl (by simp) (List.prefix_refl _)
end
theorem Xc {fr:List Frm}{sk:List Int}{st on co:Int}(hb:ThrB ⟨st,on,fr,sk,co⟩){s:List AObj}{v:List Nat} : zp Tryz.prog 107 [.agg [.int .i64 st,.int .i64 on,row fr,row sk,.int .i64 co]] s v (zev ⟨st,on,fr,sk,co⟩ s v):=by
 obtain⟨hb1,hb2,hb3⟩:=hb
 simp only at hb1 hb2 hb3
 refine ac1 Tryz.func107 Tryz.ntmps107 ?_
 have hrs:Tryz.f107.results = #[.cell 2 73]:=rfl
 repeat' (first|(with_reducible first|refine uk ?_|refine wk ?_ ?_<;>intro _)|simp -implicitDefEqProofs(disch:=first|assumption|omega)[*])
 refine zC (β:=List AObj × List Nat × List LV × LV × Nat) true fr.length (fun k p=>FrmsO (s++(.cells [.int .i64 st,.int .i64 on,row fr,row sk,.int .i64 co] :: .cells [.int .i64 0,.int .i64 0,.nils,.nils,.int .i64 0] :: p.1)) (s.length+2) (fr.take k) p.2.1 p.2.2.1 p.2.2.2.1 p.2.2.2.2) (fun k p=>[(3,p.2.2.2.1),(4,.int .i64 k),(8,.any),(9,.any),(10,.any),(11,.any),(12,.any),(15,.any),(16,.any),(17,.any),(18,.any),(19,.any),(5,.any),(6,.any),(20,.any),(21,.any),(22,.any),(23,.any),(24,.any),(25,.any),(26,.any),(27,.any),(28,.any),(13,.any),(14,.any)]) (fun _ p=>s++(.cells [.int .i64 st,.int .i64 on,row fr,row sk,.int .i64 co] :: .cells [.int .i64 0,.int .i64 0,.nils,.nils,.int .i64 0] :: p.1)) (fun _ p=>v) ?_ ?_
 ·exact⟨([],[],[],.nils,s.length+2),zhC _ _,fz0,rfl,rfl⟩
 rintro k ⟨J,ids,r,xF,iF⟩ hk hF
 simp only at hF
 by_cases hlt:k<fr.length
 ·have hlc:=hb3 _ (zm hlt)
  have hx:=zB (l:=fr) (i:=(k:Int)) (by omega) (by omega)
  have htk:(fr.take k).length=k:=by simp;omega
  obtain⟨x1,J1,ha1,hJ1⟩:=Jv (P:=Tryz.prog) (t:=23) (t2:=23) (sz:=1) (by_:=8) (by kernel_rfl) rfl (by omega) (l:=(nth fr k).locals) (by unfold maxLen;omega) (by omega) (s++(.cells [.int .i64 st,.int .i64 on,row fr,row sk,.int .i64 co] :: .cells [.int .i64 0,.int .i64 0,.nils,.nils,.int .i64 0] :: (J++[AObj.cells [.int .i64 (nth fr k).func,.int .i64 (nth fr k).pc,row (nth fr k).locals]])))
  obtain⟨iL,hiL1,hx1⟩:∃ iL,(s.length+(J.length+2)≤iL∧iL<s.length+((J++AObj.cells [.int .i64 (nth fr k).func,.int .i64 (nth fr k).pc,x1] :: J1).length+2))∧RowR (s++(.cells [.int .i64 st,.int .i64 on,row fr,row sk,.int .i64 co] :: .cells [.int .i64 0,.int .i64 0,.nils,.nils,.int .i64 0] :: (J++AObj.cells [.int .i64 (nth fr k).func,.int .i64 (nth fr k).pc,x1] :: J1))) 1 (nth fr k).locals.length (zd (nth fr k).locals) x1 iL:=by
   rcases hJ1 with ⟨e1,rfl,rfl⟩ | ⟨e1,rfl,rfl⟩
   ·rw[e1];exact⟨s.length+(J.length+2),⟨by omega,by simp⟩,.inl ⟨rfl,rfl,rfl⟩⟩
   ·have hl1:(nth fr k).locals.length≠0:=fun e=>e1 (List.length_eq_zero_iff.1 e)
    refine⟨s.length+(J.length+1+2),⟨by omega,by simp⟩,.inr ⟨hl1,xe (by simp) e1,by simp,?_,by rw[zY];simp⟩⟩
    rw[ze,List.getElem?_append_right (by omega)];simp
  have c1:=hx1.cells
  obtain⟨J2,ids2,hf,hF2⟩:=zea (P:=Tryz.prog) (t:=71) (t2:=71) (by kernel_rfl) (J1:=J++AObj.cells [.int .i64 (nth fr k).func,.int .i64 (nth fr k).pc,x1] :: J1) hF htk (by omega) (fun d hd=>List.getElem?_append_left hd) (by simp) hx1 hiL1
  clear hJ1
  repeat' (first|(with_reducible first|refine uk ?_|refine wk ?_ ?_<;>intro _)|simp -implicitDefEqProofs(disch:=first|assumption|omega)[*])
  exact⟨hlt,(J2,ids2,r++[.int .i64 (nth fr k).func,.int .i64 (nth fr k).pc,x1],.ref 3 (s.length+((J++AObj.cells [.int .i64 (nth fr k).func,.int .i64 (nth fr k).pc,x1] :: J1).length+2)) 0 (k+1) false,s.length+((J++AObj.cells [.int .i64 (nth fr k).func,.int .i64 (nth fr k).pc,x1] :: J1).length+2)),
   by show FrmsO _ _ (fr.take (k+1)) _ _ _ _;rw[za hlt];exact hF2,fz,by simp,rfl⟩
 ·have:k=fr.length:=by omega
  subst this
  rw[List.take_of_length_le (Nat.le_refl _)] at hF
  have cF:=hF.frames.cells
  obtain⟨x1,J3,ha3,hJ3⟩:=Jv (P:=Tryz.prog) (t:=23) (t2:=23) (sz:=1) (by_:=8) (by kernel_rfl) rfl (by omega) (l:=sk) (by unfold maxLen;omega) (by omega) (s++(.cells [.int .i64 st,.int .i64 on,xF,row sk,.int .i64 co] :: .cells [.int .i64 0,.int .i64 0,.nils,.nils,.int .i64 0] :: J))
  have c1:x1.cells=[x1]∧x1.cellsOk=true:=by rcases hJ3 with ⟨_,rfl,_⟩ | ⟨_,rfl,_⟩<;>exact⟨rfl,rfl⟩
  have hend:=fun a' b' v=>zcO (t:=⟨st,on,fr,sk,co⟩) (x1:=x1) (J3:=J3) (a':=a') (b':=b') (v:=v) hF (by simpa using hJ3)
  clear hJ3
  repeat' (first|(with_reducible first|refine uk ?_|refine wk ?_ ?_<;>intro _)|simp -implicitDefEqProofs(disch:=first|assumption|omega)[*])
theorem zkl {t:Thr}{f:FuncId}{args:List LV}{s:List AObj}{v:List Nat}{K:LV→List AObj→List Nat→Prop}(h:zp Tryz.prog f args s v (zev t s v))
  (k:∀ J ids r xF xS dF dS,(xF.cells=[xF]∧xF.cellsOk=true)→(xS.cells=[xS]∧xS.cellsOk=true)→FrmsO (s++J) s.length t.frames ids r xF (s.length+dF)→
   RowR (s++J) 1 t.stack.length (zd t.stack) xS (s.length+dS)→(t.stack.length≠0→∀ id∈ids,id≠s.length+dS)→(t.frames.length≠0→t.stack.length≠0→dF≠dS)→
   K (.agg [.int .i64 t.state,.int .i64 t.on,xF,xS,.int .i64 t.code]) (s++J) v):zp Tryz.prog f args s v K:=by
 refine zj h ?_
 rintro y s' v' ⟨rfl,J,ids,r,xF,xS,dF,dS,rfl,rfl,h1,h2,h3,h4⟩
 exact k J ids r xF xS dF dS h1.frames.cells h2.cells h1 h2 h3 h4
theorem zdT {fr:List Frm}{sk:List Int}{st on co pc:Int}(hb:ThrB ⟨st,on,fr,sk,co⟩)(h0:fr≠[]):zM Tryz.prog 236 [.agg [.int .i64 st,.int .i64 on,row fr,row sk,.int .i64 co],.int .i64 pc] (.agg (jump ⟨st,on,fr,sk,co⟩ pc).lv):=by
 intro s v
 have hb':=hb
 obtain⟨hb1,hb2,hb3⟩:=hb'
 simp only at hb1 hb2 hb3
 have hf0:fr.length≠0:=fun e=>h0 (List.length_eq_zero_iff.1 e)
 refine zS ?_
 refine ac0 Tryz.func236 Tryz.ntmps236 ?_
 have hrs:Tryz.f236.results = #[.cell 4 73]:=rfl
 have e1:((fr.length:Int)-1).toNat=fr.length-1:=by omega
 repeat' (first|(with_reducible first|refine uk ?_|refine wk ?_ ?_<;>intro _|refine zkl (Xc hb) (fun J ids r xF xS dF dS cF cS hF hS hne1 hne2=>?_))|simp -implicitDefEqProofs(disch:=first|assumption|omega)[*])
 simp only at hF hS hne1 hne2
 replace hF:=zbH (P:=fun S b i=>FrmsO S b fr ids r xF i) hF
 replace hS:=zbH (P:=fun S b i=>RowR S 1 sk.length (zd sk) xS i) hS
 replace hne1:sk.length≠0→∀ id∈ids,id≠s.length+(dS+2):=fun h id hi e=>hne1 h id hi (by simp;omega)
 obtain⟨hr0,hrne,rfl,hget,hrl⟩:=hF.frames.resolve_left fun h=>hf0 h.1
 have hJ:J[dF]? = some (.cells r):=by rw[ze] at hget;exact hget
 have hJX:∀ X,(J++[X])[dF]? = some (.cells r):=fun X=>by rw[List.getElem?_append_left (List.getElem?_eq_some_iff.1 hJ).1];exact hJ
 have hJS:∀ X o,(J++[X]).set dF o=J.set dF o++[X]:=fun X o=>by rw[List.set_append_left _ _ (List.getElem?_eq_some_iff.1 hJ).1]
 have hle:(fr.length-1)*3+1+1≤r.length:=by omega
 have e2:s.length+2+dF=s.length+(dF+2):=by omega
 have hb0:(1:Int)≤fr.length:=by omega
 have hb0':(fr.length:Int)-1<fr.length:=by omega
 have hle2:(fr.length-1)*3+1+1≤fr.length*3:=by omega
 have hJL:∀ X o,(J.set dF o++[X])[J.length]? = some X:=fun X o=>by rw[List.getElem?_append_right (by simp)];simp
 have hS':=hS
 have hF':=hF
 clear hget hS hF
 repeat' (first|(with_reducible first|refine uk ?_|refine wk ?_ ?_<;>intro _)|simp -implicitDefEqProofs(disch:=first|assumption|omega)[*])
 clear hJX hJS hJL
 have hdF:=(List.getElem?_eq_some_iff.1 hJ).1
 have hid:∀ id∈ids,s.length+2≤id∧id<s.length+(J.length+2)∧id≠s.length+(dF+2):=fun id hi=>by
  have h:=hF'.ids id hi
  have h2:=h.2.2 hf0
  simp only[List.length_append,List.length_cons,List.length_nil] at h
  omega
 refine zbG (fr:=fr.set (fr.length-1) {nth fr (fr.length-1) with pc:=pc }) (ids:=ids) (iF:=s.length+(dF+2)) (iS:=s.length+(dS+2)) (yK.keep (yK.pc (pc:=pc) (fr.length-1) hF'.fr (by omega)) fun i hi=>?_) (fun i hi=>by have:=(hid i hi).1;omega) ?_ (by simp) hf0 (by omega) (hS'.keep fun h0=>?_) (by omega)
 ·exact vw hdF (hid i hi).1 (hid i hi).2.1 (hid i hi).2.2
 ·rw[ze,List.getElem?_append_left (by simpa using hdF),List.getElem?_set_self hdF]
 ·have h1:=hS'.lt h0
  simp at h1
  exact vw hdF (by omega) (by omega) (by have:=hne2 hf0 h0;omega)
theorem zkU {fr:List Frm}{sk:List Int}{st on co i x:Int}(hb:ThrB ⟨st,on,fr,sk,co⟩)(h0:fr≠[])(hi0:0≤i)(hi1:i<(nth fr (fr.length-1)).locals.length):zM Tryz.prog 243 [.agg [.int .i64 st,.int .i64 on,row fr,row sk,.int .i64 co],.int .i64 i,.int .i64 x] (.agg (setL ⟨st,on,fr,sk,co⟩ i x).lv):=by
 intro s v
 have hb':=hb
 obtain⟨hb1,hb2,hb3⟩:=hb'
 simp only at hb1 hb2 hb3
 have hf0:fr.length≠0:=fun e=>h0 (List.length_eq_zero_iff.1 e)
 have hk:=ZQ x
 refine zS ?_
 unfold setL topF
 simp only
 generalize keep x=kx at *
 refine ac0 Tryz.func243 Tryz.ntmps243 ?_
 have hrs:Tryz.f243.results = #[.cell 6 73]:=rfl
 have e1:((fr.length:Int)-1).toNat=fr.length-1:=by omega
 repeat' (first|(with_reducible first|refine uk ?_|refine wk ?_ ?_<;>intro _|(refine dr P243 mixed ?_ ?_ ?_;kernel_rfl;kernel_rfl)|refine zkl (Xc hb) (fun J ids r xF xS dF dS cF cS hF hS hne1 hne2=>?_))|simp -implicitDefEqProofs(disch:=first|assumption|omega)[*])
 simp only at hF hS hne1 hne2
 replace hF:=zbH (P:=fun S b i=>FrmsO S b fr ids r xF i) hF
 replace hS:=zbH (P:=fun S b i=>RowR S 1 sk.length (zd sk) xS i) hS
 replace hne1:sk.length≠0→∀ id∈ids,id≠s.length+(dS+2):=fun h id hi e=>hne1 h id hi (by simp;omega)
 obtain⟨hr0,hrne,rfl,hget,hrl⟩:=hF.frames.resolve_left fun h=>hf0 h.1
 have hJ:J[dF]? = some (.cells r):=by rw[ze] at hget;exact hget
 have hdF:=(List.getElem?_eq_some_iff.1 hJ).1
 obtain⟨xL,idL,hidL,h3,hL⟩:=yK.get (fr.length-1) hF.fr (by omega)
 have hmem:=List.mem_of_getElem? hidL
 have hlo:(nth fr (fr.length-1)).locals.length≠0:=by omega
 obtain⟨_,hLne,rfl,hgetL,hLl⟩:=hL.resolve_left fun h=>hlo h.1
 have hid:∀ id∈ids,s.length+2≤id∧id<s.length+(J.length+2)∧id≠s.length+(dF+2):=fun id hi=>by
  have h:=hF.ids id hi
  have h2:=h.2.2 hf0
  simp only[List.length_append,List.length_cons,List.length_nil] at h
  omega
 obtain⟨dL,rfl⟩:∃ d,idL=s.length+(d+2):=⟨idL-(s.length+2),by have:=hid _ hmem;omega⟩
 have hJL:J[dL]? = some (.cells (zd (nth fr (fr.length-1)).locals)):=by rw[ze] at hgetL;exact hgetL
 have hdL:=(List.getElem?_eq_some_iff.1 hJL).1
 have h3':=zgg h3
 have hJX:∀ X,(J++[X])[dF]? = some (.cells r):=fun X=>by rw[List.getElem?_append_left hdF];exact hJ
 have hJX2:∀ X,(J++[X])[dL]? = some (.cells (zd (nth fr (fr.length-1)).locals)):=fun X=>by rw[List.getElem?_append_left hdL];exact hJL
 have hJS:∀ X o,(J++[X]).set dL o=J.set dL o++[X]:=fun X o=>by rw[List.set_append_left _ _ hdL]
 have hJLx:∀ X o,(J.set dL o++[X])[J.length]? = some X:=fun X o=>by rw[List.getElem?_append_right (by simp)];simp
 have hle:(fr.length-1)*3+2+1≤r.length:=by omega
 have hle2:(fr.length-1)*3+2+1≤fr.length*3:=by omega
 have e2:s.length+2+dF=s.length+(dF+2):=by omega
 have hb0:(1:Int)≤fr.length:=by omega
 have hb0':(fr.length:Int)-1<fr.length:=by omega
 have hS':=hS
 have hF':=hF
 have hL':=hL
 have hi2:i.toNat+1≤(nth fr (fr.length-1)).locals.length:=by omega
 clear hget hS hF hgetL hL
 generalize hlo':(nth fr (fr.length-1)).locals=lo at *
 repeat' (first|(with_reducible first|refine uk ?_|refine wk ?_ ?_<;>intro _|(refine dr P243 mixed ?_ ?_ ?_;kernel_rfl;kernel_rfl)|refine zc hk ?_)|simp -implicitDefEqProofs(disch:=first|assumption|omega)[*])
 have hLF:=(hid _ hmem).2.2
 rw[vI]
 refine zbG (fr:=fr.set (fr.length-1) {nth fr (fr.length-1) with locals:=lo.set i.toNat kx }) (ids:=ids) (r:=r) (iF:=s.length+(dF+2)) (iS:=s.length+(dS+2))
  (yK.put (fr.length-1) (s.length+(dL+2)) hF'.fr hidL hF'.nodup (fun j hj hne=>vw hdL (hid j hj).1 (hid j hj).2.1 hne) (by simp[hlo']) fun _=>?_) (fun i hi=>by have:=(hid i hi).1;omega) ?_ (by simp) hf0 (by omega) (hS'.keep fun h0=>?_) (by omega)
 ·rw[ze,List.getElem?_append_left (by simpa using hdL),List.getElem?_set_self hdL]
 ·exact(vw (a:=.cells []) (b:=.cells []) hdL (by omega) (by omega) (by omega)).trans (by rw[ze];exact hJ)
 ·have h1:=hS'.lt h0
  simp at h1
  exact vw hdL (by omega) (by omega) (by have:=hne1 h0 _ hmem;omega)
end Go.Hb
end
