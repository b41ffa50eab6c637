/-
  A layer for reasoning about the program's calls, and contracts of its functions. CONDITIONS: none; each theorem bears its own.
-/
import Derived.Test.YtieoaonaijbijaaGreatG19
import Derived.Test.YtieoaonaijbijaaGreatG07
set_option linter.unusedVariables false
set_option linter.unusedSimpArgs false
section
namespace Go.Hb
open Go Go.Proofs Go.RowKit
set_option maxRecDepth 100000
set_option maxHeartbeats 800000
attribute [-simp] aC aL aOper aThen aInBlock aIf aPlan aAppend aLen aIndexAddr aSlice aCells aBounds lBr aq initT aev aAppendOwn aAppendNil aAppendNew aAppendRef LV.cells LV.cellsOk getElem?_pos getElem?_neg
section
attribute [local simp] Cor.lv
theorem send_p {c:Cor} {ch room t x:Int} (hb:CorB c) (h0:0≤ch) (h1:ch<c.bufs.length) (h2:ch<c.sendq.length) (h3:ch<c.recvq.length) :
  PureC Tryz.prog 280 [.agg [.int .i64 c.now,row c.threads,row c.owners,row c.counts,row c.bufs,row c.lockq,row c.waitq,row c.downq,row c.sendq,row c.recvq],.int .i64 ch,.int .i64 room,.int .i64 t,.int .i64 x] (.tup [.agg (sendC c ch room t x).1.lv,.int .i64 (sendC c ch room t x).2.1,.bool (sendC c ch room t x).2.2]):=by
 intro s v
 refine aCalls_deep ?_
 have hx3:=ix_in h0 h3
 have b3:=hb.recvq.2 _ (nth_mem (k:=ch.toNat) (by omega:ch.toNat<c.recvq.length))
 by_cases hr:0<(nth c.recvq ch.toNat).length
 ·have hs:sendC c ch room t x=(cancelC c (nth (nth c.recvq ch.toNat) 0),nth (nth c.recvq ch.toNat) 0,true):=by unfold sendC at';rw [if_pos hr]
  rw [hs]
  have hx0:=ix_in (l:=nth c.recvq ch.toNat) (i:=0) (by omega) (by omega)
  have hc:=cancel_p (t:=nth (nth c.recvq ch.toNat) 0) hb (by omega)
  clear hs
  generalize cancelC c (nth (nth c.recvq ch.toNat) 0)=u at *
  simp only [Cor.lv] at hc
  refine ac0 Tryz.func280 Tryz.ntmps280 ?_
  have hrs:Tryz.f280.results = #[.cell 10 29,.tmp 11,.tmp 12]:=rfl
  repeat' (first|(with_reducible first|refine uk ?_|refine wk ?_ ?_<;>intro _|(refine dr P280 mixed ?_ ?_ ?_;kernel_rfl;kernel_rfl)|refine callC hc (fun v1 hv1=>?_))|simp -implicitDefEqProofs(disch:=first|assumption|omega)[*])
  exact .keep _ (by simp [LV.under,undersB])
 have b1:=hb.bufs.2 _ (nth_mem (k:=ch.toNat) (by omega:ch.toNat<c.bufs.length))
 have b2:=hb.sendq.2 _ (nth_mem (k:=ch.toNat) (by omega:ch.toNat<c.sendq.length))
 refine ac0 Tryz.func280 Tryz.ntmps280 ?_
 have hrs:Tryz.f280.results = #[.cell 10 29,.tmp 11,.tmp 12]:=rfl
 repeat' (first|(with_reducible first|refine uk ?_|refine wk ?_ ?_<;>intro _|(refine dr P280 mixed ?_ ?_ ?_;kernel_rfl;kernel_rfl)|refine callCh (chown_c hb) (fun v' J xB xS xR cB cS cR dB dS dR qB qS qR ho=>?_))|simp -implicitDefEqProofs(disch:=first|assumption|omega)[*])
 replace ho:=ho.lay
 obtain⟨e1,jB,lB,nB⟩:=ho.bufs.obj (by omega)
 obtain⟨e2,jS,lS,nS⟩:=ho.sendq.obj (by omega)
 have hw:=ho.w
 have hgB:=ho.gB
 have hgS:=ho.gS
 subst e1 e2
 clear ho
 obtain⟨y,gy1,gy2⟩:=hgB.at_ ch.toNat (by omega)
 obtain⟨z,gz1,gz2⟩:=hgS.at_ ch.toNat (by omega)
 have hyc:=gy2.gro.cells
 have hzc:=gz2.gro.cells
 have hyl:=gy2.gro.len (P:=Tryz.prog) (t:=23) (by kernel_rfl)
 have hm1:ch.toNat+1≤c.bufs.length:=by omega
 have hm2:ch.toNat+1≤c.sendq.length:=by omega
 obtain⟨y2,v2,gy,_,ha⟩:=gy2.push (P:=Tryz.prog) (t:=23) (t2:=23) (sz:=1) (by_:=8) (by kernel_rfl) rfl (by omega) x (by omega)
 obtain⟨z2,v3,gz,_,ha2⟩:=gz2.push2 (P:=Tryz.prog) (t:=23) (t2:=23) (by_:=8) (by kernel_rfl) (by omega) t x (by omega)
 simp only [enc_int] at ha
 have hyc2:=gy.gro.cells
 have hzc2:=gz.gro.cells
 by_cases hrm:((nth c.bufs ch.toNat).length:Int)<room
 ·have hs:sendC c ch room t x=({c with bufs:=c.bufs.set ch.toNat (nth c.bufs ch.toNat++[x]) }, -1,true):=by unfold sendC at';rw [if_neg hr,if_pos hrm]
  rw [hs]
  clear hs
  have hpre:=gy.1
  repeat' (first|(with_reducible first|refine uk ?_|refine wk ?_ ?_<;>intro _|(refine dr P280 mixed ?_ ?_ ?_;kernel_rfl;kernel_rfl))|simp -implicitDefEqProofs(disch:=first|assumption|omega)[*])
  exact .tup _ _ (.cons _ _ _ _ ((hw.setB (by omega) (L:=c.bufs.set ch.toNat (nth c.bufs ch.toNat++[x])) (cs:=cB.set ch.toNat y2) (by simp) (hgB.weak.put gy.gro.weak (gy.gro.under 0))).box _ _).deep (.cons _ _ _ _ (.keep _ rfl) (.cons _ _ _ _ (.keep _ rfl) .nil)))
 ·have hs:sendC c ch room t x=({c with sendq:=c.sendq.set ch.toNat (nth c.sendq ch.toNat++[t,x]) }, -1,false):=by unfold sendC at';rw [if_neg hr,if_neg hrm]
  rw [hs]
  clear hs
  have hpre:=gz.1
  repeat' (first|(with_reducible first|refine uk ?_|refine wk ?_ ?_<;>intro _|(refine dr P280 mixed ?_ ?_ ?_;kernel_rfl;kernel_rfl))|simp -implicitDefEqProofs(disch:=first|assumption|omega)[*])
  exact .tup _ _ (.cons _ _ _ _ ((hw.setS (by omega) (L:=c.sendq.set ch.toNat (nth c.sendq ch.toNat++[t,x])) (cs:=cS.set ch.toNat z2) (by simp) (hgS.weak.put gz.gro.weak (gz.gro.under 0))).box _ _).deep (.cons _ _ _ _ (.keep _ rfl) (.cons _ _ _ _ (.keep _ rfl) .nil)))
end
section
attribute [local simp] Cor.lv
theorem recv_p {c:Cor} {ch t:Int} (hb:CorB c) (h0:0≤ch) (h1:ch<c.bufs.length) (h2:ch<c.sendq.length) (h3:ch<c.recvq.length) (h4:0<(nth c.sendq ch.toNat).length→2≤(nth c.sendq ch.toNat).length) :
  PureC Tryz.prog 282 [.agg [.int .i64 c.now,row c.threads,row c.owners,row c.counts,row c.bufs,row c.lockq,row c.waitq,row c.downq,row c.sendq,row c.recvq],.int .i64 ch,.int .i64 t] (.tup [.agg (recvC c ch t).1.lv,.int .i64 (recvC c ch t).2.1,.int .i64 (recvC c ch t).2.2.1,.bool (recvC c ch t).2.2.2]):=by
 intro s v
 refine aCalls_deep ?_
 have b1:=hb.bufs.2 _ (nth_mem (k:=ch.toNat) (by omega:ch.toNat<c.bufs.length))
 have b2:=hb.sendq.2 _ (nth_mem (k:=ch.toNat) (by omega:ch.toNat<c.sendq.length))
 have b3:=hb.recvq.2 _ (nth_mem (k:=ch.toNat) (by omega:ch.toNat<c.recvq.length))
 have hm1:ch.toNat+1≤c.bufs.length:=by omega
 have hm2:ch.toNat+1≤c.sendq.length:=by omega
 have hm3:ch.toNat+1≤c.recvq.length:=by omega
 refine ac0 Tryz.func282 Tryz.ntmps282 ?_
 have hrs:Tryz.f282.results = #[.cell 6 29,.tmp 7,.tmp 8,.tmp 9]:=rfl
 repeat' (first|(with_reducible first|refine uk ?_|refine wk ?_ ?_<;>intro _|(refine dr P282 mixed ?_ ?_ ?_;kernel_rfl;kernel_rfl)|refine callCh (chown_c hb) (fun v' J xB xS xR cB cS cR dB dS dR qB qS qR ho=>?_))|simp -implicitDefEqProofs(disch:=first|assumption|omega)[*])
 replace ho:=ho.lay
 obtain⟨e1,jB,lB,nB⟩:=ho.bufs.obj (by omega)
 obtain⟨e2,jS,lS,nS⟩:=ho.sendq.obj (by omega)
 obtain⟨e3,jR,lR,nR⟩:=ho.recvq.obj (by omega)
 have hw:=ho.w
 have hgB:=ho.gB
 have hgS:=ho.gS
 have hgR:=ho.gR
 subst e1 e2 e3
 clear ho
 obtain⟨y,gy1,gy2⟩:=hgB.at_ ch.toNat (by omega)
 obtain⟨z,gz1,gz2⟩:=hgS.at_ ch.toNat (by omega)
 obtain⟨w,gw1,gw2⟩:=hgR.at_ ch.toNat (by omega)
 have hyc:=gy2.gro.cells
 have hzc:=gz2.gro.cells
 have hwc:=gw2.gro.cells
 have hyl:=gy2.gro.len (P:=Tryz.prog) (t:=23) (by kernel_rfl)
 have hzl:=gz2.gro.len (P:=Tryz.prog) (t:=23) (by kernel_rfl)
 have hyi:=fun i=>gy2.ix (P:=Tryz.prog) (t:=23) (κ:=.i64) (i:=i)
 have hzi:=fun i=>gz2.ix (P:=Tryz.prog) (t:=23) (κ:=.i64) (i:=i)
 have hpre:=hgB.pre
 by_cases hB:0<(nth c.bufs ch.toNat).length
 ·have hy0:=ix_in (l:=nth c.bufs ch.toNat) (i:=0) (by omega) (by omega)
  obtain⟨y2,hs1,gy3⟩:=gy2.slice (P:=Tryz.prog) (t:=23) (a:=1) (by simp) (by omega) (by omega)
  simp only [show (1:Int).toNat=1 from rfl,List.drop_one] at gy3
  have hyc2:=gy3.gro.cells
  have hwB:=hw.setB (by omega) (L:=c.bufs.set ch.toNat (nth c.bufs ch.toNat).tail) (cs:=cB.set ch.toNat y2) (by simp) (hgB.weak.put gy3.gro.weak (gy3.gro.under 0))
  have jS1:=(hwB.sendq.obj (by show c.sendq.length≠0;omega)).2.1
  by_cases hS:0<(nth c.sendq ch.toNat).length
  ·have hl2:=h4 hS
   have hr:recvC c ch t=({c with bufs:=c.bufs.set ch.toNat ((nth c.bufs ch.toNat).tail++[nth (nth c.sendq ch.toNat) 1]),sendq:=c.sendq.set ch.toNat ((nth c.sendq ch.toNat).drop 2) },nth (nth c.bufs ch.toNat) 0,nth (nth c.sendq ch.toNat) 0,true):=by unfold recvC at';rw [if_pos hB,if_pos hS,List.drop_one]
   rw [hr]
   clear hr
   have hz0:=ix_in (l:=nth c.sendq ch.toNat) (i:=0) (by omega) (by omega)
   have hz1:=ix_in (l:=nth c.sendq ch.toNat) (i:=1) (by omega) (by omega)
   obtain⟨z2,hs2,gz3⟩:=gz2.slice (P:=Tryz.prog) (t:=23) (a:=2) (by simp) (by omega) (by omega)
   simp only [show (2:Int).toNat=2 from rfl] at gz3
   have hzc2:=gz3.gro.cells
   obtain⟨y4,v4,gy4,_,ha⟩:=gy3.push (P:=Tryz.prog) (t:=23) (t2:=23) (sz:=1) (by_:=8) (by kernel_rfl) rfl (by omega) (nth (nth c.sendq ch.toNat) 1) (by simp;omega)
   simp only [enc_int] at ha
   have hyc4:=gy4.gro.cells
   have hpre4:=gy4.1
   have hcb:(cB.set ch.toNat y2)[ch.toNat]? = some y2:=by rw [List.getElem?_set_self (by rw [lB];omega)]
   have hcl:ch.toNat+1≤(cB.set ch.toNat y2).length:=by simp [lB];omega
   have jB1:=(hwB.bufs.obj (by show (c.bufs.set _ _).length≠0;rw [List.length_set];omega)).2.1
   have hwB2:=hw.setB (by omega) (L:=c.bufs.set ch.toNat ((nth c.bufs ch.toNat).tail++[nth (nth c.sendq ch.toNat) 1])) (cs:=cB.set ch.toNat y4) (by simp) (hgB.weak.put gy4.gro.weak (gy4.gro.under 0))
   have jS2:=(hwB2.sendq.obj (by show c.sendq.length≠0;omega)).2.1
   have hwS:=hwB2.setS (by show c.sendq.length≠0;omega) (L:=c.sendq.set ch.toNat ((nth c.sendq ch.toNat).drop 2)) (cs:=cS.set ch.toNat z2) (by simp) (hgS.weak.put gz3.gro.weak (gz3.gro.under 0))
   repeat' (first|(with_reducible first|refine uk ?_|refine wk ?_ ?_<;>intro _|(refine dr P282 mixed ?_ ?_ ?_;kernel_rfl;kernel_rfl))|simp -implicitDefEqProofs(disch:=first|assumption|omega)[*])
   exact .tup _ _ (.cons _ _ _ _ (hwS.box _ _).deep (.cons _ _ _ _ (.keep _ rfl) (.cons _ _ _ _ (.keep _ rfl) (.cons _ _ _ _ (.keep _ rfl) .nil))))
  ·have hr:recvC c ch t=({c with bufs:=c.bufs.set ch.toNat (nth c.bufs ch.toNat).tail },nth (nth c.bufs ch.toNat) 0, -1,true):=by unfold recvC at';rw [if_pos hB,if_neg hS,List.drop_one]
   rw [hr]
   clear hr
   repeat' (first|(with_reducible first|refine uk ?_|refine wk ?_ ?_<;>intro _|(refine dr P282 mixed ?_ ?_ ?_;kernel_rfl;kernel_rfl))|simp -implicitDefEqProofs(disch:=first|assumption|omega)[*])
   exact .tup _ _ (.cons _ _ _ _ (hwB.box _ _).deep (.cons _ _ _ _ (.keep _ rfl) (.cons _ _ _ _ (.keep _ rfl) (.cons _ _ _ _ (.keep _ rfl) .nil))))
 by_cases hS:0<(nth c.sendq ch.toNat).length
 ·have hl2:=h4 hS
  have hr:recvC c ch t=({c with sendq:=c.sendq.set ch.toNat ((nth c.sendq ch.toNat).drop 2) },nth (nth c.sendq ch.toNat) 1,nth (nth c.sendq ch.toNat) 0,true):=by unfold recvC at';rw [if_neg hB,if_pos hS]
  rw [hr]
  clear hr
  have hz0:=ix_in (l:=nth c.sendq ch.toNat) (i:=0) (by omega) (by omega)
  have hz1:=ix_in (l:=nth c.sendq ch.toNat) (i:=1) (by omega) (by omega)
  obtain⟨z2,hs1,gz3⟩:=gz2.slice (P:=Tryz.prog) (t:=23) (a:=2) (by simp) (by omega) (by omega)
  simp only [show (2:Int).toNat=2 from rfl] at gz3
  have hzc2:=gz3.gro.cells
  repeat' (first|(with_reducible first|refine uk ?_|refine wk ?_ ?_<;>intro _|(refine dr P282 mixed ?_ ?_ ?_;kernel_rfl;kernel_rfl))|simp -implicitDefEqProofs(disch:=first|assumption|omega)[*])
  exact .tup _ _ (.cons _ _ _ _ ((hw.setS (by omega) (L:=c.sendq.set ch.toNat ((nth c.sendq ch.toNat).drop 2)) (cs:=cS.set ch.toNat z2) (by simp) (hgS.weak.put gz3.gro.weak (gz3.gro.under 0))).box _ _).deep (.cons _ _ _ _ (.keep _ rfl) (.cons _ _ _ _ (.keep _ rfl) (.cons _ _ _ _ (.keep _ rfl) .nil))))
 ·have hr:recvC c ch t=({c with recvq:=c.recvq.set ch.toNat (nth c.recvq ch.toNat++[t]) },0, -1,false):=by unfold recvC at';rw [if_neg hB,if_neg hS]
  rw [hr]
  clear hr
  obtain⟨w2,v2,gw,_,ha⟩:=gw2.push (P:=Tryz.prog) (t:=23) (t2:=23) (sz:=1) (by_:=8) (by kernel_rfl) rfl (by omega) t (by omega)
  simp only [enc_int] at ha
  have hwc2:=gw.gro.cells
  have hpre2:=gw.1
  repeat' (first|(with_reducible first|refine uk ?_|refine wk ?_ ?_<;>intro _|(refine dr P282 mixed ?_ ?_ ?_;kernel_rfl;kernel_rfl))|simp -implicitDefEqProofs(disch:=first|assumption|omega)[*])
  exact .tup _ _ (.cons _ _ _ _ ((hw.setR (by omega) (L:=c.recvq.set ch.toNat (nth c.recvq ch.toNat++[t])) (cs:=cR.set ch.toNat w2) (by simp) (hgR.weak.put gw.gro.weak (gw.gro.under 0))).box _ _).deep (.cons _ _ _ _ (.keep _ rfl) (.cons _ _ _ _ (.keep _ rfl) (.cons _ _ _ _ (.keep _ rfl) .nil))))
end
section
attribute [local simp] Cor.lv
theorem waitAll_succ {q:List (List Int)} {l:List Int} {t:Int} {k:Nat} (h:k<l.length):waitAll q (l.take (k+1)) t=(waitAll q (l.take k) t).set (nth l k).toNat (at' (waitAll q (l.take k) t) (nth l k)++[t]):=by
 unfold waitAll;rw [take_succ_nth h,List.foldl_append];rfl
theorem waitAll_len (q:List (List Int)) (t:Int):∀ (l:List Int),(waitAll q l t).length=q.length:=by
 intro l
 induction l generalizing q with
 | nil=>rfl
 | cons a l ih=>show (waitAll (q.set _ _) l t).length=_;rw [ih];simp
theorem waitAll_row (t:Int):∀ (l:List Int) (q:List (List Int)) (B:Nat),(∀ r∈q,r.length≤B)→(∀ x∈l,x.toNat<q.length)→∀ r∈waitAll q l t,r.length≤B+l.length
 | [],q,B,h,_,r,hr=>by have:=h r hr;simp;omega
 | a :: l,q,B,h,hx,r,hr=>by
  have h2:=waitAll_row t l (q.set a.toNat (at' q a++[t])) (B+1) (fun r hr=>by
   rcases List.mem_or_eq_of_mem_set hr with hr | rfl
   ·have:=h r hr;omega
   ·have:=h _ (nth_mem (hx a (by simp)));simp [at'];omega) (fun x hx'=>by simpa using hx x (by simp [hx'])) r hr
  simp at h2 ⊢;omega
theorem find_at {α : Type} [Enc α] {p:α→Bool} {l:List α} {k:Nat} (h:k<l.length) (h1:∀ j,j<k→p (nth l j)=false) (h2:p (nth l k)=true):l.findIdx? p=some k:=by
 rw [List.findIdx?_eq_some_iff_getElem]
 refine⟨h,by rw [← nth_eq h];exact h2,fun j hj=>?_⟩
 rw [← nth_eq (by omega),h1 j hj];simp
theorem find_none {α : Type} [Enc α] {p:α→Bool} {l:List α} (h1:∀ j,j<l.length→p (nth l j)=false):l.findIdx? p=none:=by
 rw [List.findIdx?_eq_none_iff]
 intro x hx
 obtain⟨j,hj,rfl⟩:=List.getElem_of_mem hx
 rw [← nth_eq hj];exact h1 j hj
theorem select_p {c:Cor} {l:List Int} {t:Int} (hb:CorB c) (hl:l.length≤8) (hin:∀ x∈l,0≤x∧x<c.bufs.length) (e1:c.bufs.length≤c.sendq.length) (e2:c.bufs.length≤c.recvq.length) (hn:c.bufs.length≠0)
  (h4:∀ k,k<c.sendq.length→0<(nth c.sendq k).length→2≤(nth c.sendq k).length) (h5:∀ r∈c.recvq,r.length≤100) :
  PureC Tryz.prog 283 [.agg [.int .i64 c.now,row c.threads,row c.owners,row c.counts,row c.bufs,row c.lockq,row c.waitq,row c.downq,row c.sendq,row c.recvq],row l,.int .i64 t] (.tup [.agg (selectC c l t).1.lv,.int .i64 (selectC c l t).2.1,.int .i64 (selectC c l t).2.2.1,.int .i64 (selectC c l t).2.2.2.1,.bool (selectC c l t).2.2.2.2]):=by
 intro s v
 refine aCalls_deep ?_
 refine ac0 Tryz.func283 Tryz.ntmps283 ?_
 have hrs:Tryz.f283.results = #[.cell 6 29,.tmp 7,.tmp 8,.tmp 9,.tmp 10]:=rfl
 repeat' (first|(with_reducible first|refine uk ?_|refine wk ?_ ?_<;>intro _|(refine dr P283 mixed ?_ ?_ ?_;kernel_rfl;kernel_rfl))|simp -implicitDefEqProofs(disch:=first|assumption|omega)[*])
 refine aW_for (β:=Unit) false l.length (fun k _=>∀ j,j<k→readyC c (nth l j)=false) (fun k _=>[(11,.int .i64 k),(18,.any),(19,.any),(20,.any),(21,.any),(24,.any),(25,.any),(26,.any),(27,.any),(28,.any),(29,.any),(12,.any),(30,.any),(32,.any),(33,.any),(34,.any),(35,.any),(36,.any),(37,.any),(38,.any),(31,.any),(39,.any),(40,.any),(41,.any),(42,.any),(13,.any),(14,.any),(15,.any),(16,.any),(43,.any),(44,.any),(45,.any),(46,.any),(7,.any),(8,.any),(9,.any),(10,.any),(22,.any),(23,.any)]) (fun _ _=>s++[AObj.cells [.int .i64 c.now,row c.threads,row c.owners,row c.counts,row c.bufs,row c.lockq,row c.waitq,row c.downq,row c.sendq,row c.recvq],AObj.cells [.int .i64 0,.nils,.nils,.nils,.nils,.nils,.nils,.nils,.nils,.nils]]) (fun _ _=>v) ?_ ?_
 ·exact⟨(),by simp,fz0,rfl,rfl⟩
 rintro k _ hk hI
 by_cases hlt:k<l.length
 ·obtain⟨hi0,hi1⟩:=hin _ (nth_mem hlt)
  have hx:=ix_in (l:=l) (i:=(k:Int)) (by omega) (by omega)
  have hr:=chready_p hb hi0 hi1 (by omega)
  cases hrd:readyC c (nth l k)
  ·rw [hrd] at hr
   repeat' (first|(with_reducible first|refine uk ?_|refine wk ?_ ?_<;>intro _|(refine dr P283 mixed ?_ ?_ ?_;kernel_rfl;kernel_rfl)|refine andC ?_ ?_|refine callE hr ?_)|simp -implicitDefEqProofs(disch:=first|assumption|omega)[*])
   exact⟨hlt,(),fun j hj=>by
    by_cases e:j=k
    ·subst e;exact hrd
    ·exact hI j (by omega),fz,rfl,rfl⟩
  ·rw [hrd] at hr
   have hs:selectC c l t=((recvC c (nth l k) t).1,(k:Int),(recvC c (nth l k) t).2.1,(recvC c (nth l k) t).2.2.1,true):=by unfold selectC;rw [find_at hlt hI hrd]
   rw [hs]
   have hc:=recv_p (t:=t) hb hi0 hi1 (by omega) (by omega) (h4 _ (by omega))
   generalize recvC c (nth l k) t=u at *
   simp only [Cor.lv] at hc
   clear hs
   repeat' (first|(with_reducible first|refine uk ?_|refine wk ?_ ?_<;>intro _|(refine dr P283 mixed ?_ ?_ ?_;kernel_rfl;kernel_rfl)|refine andC ?_ ?_|refine callE hr ?_|refine callC hc (fun v1 hv1=>?_))|simp -implicitDefEqProofs(disch:=first|assumption|omega)[*])
   all_goals exact .keep _ (by simp [LV.under,undersB])
 ·have:k=l.length:=by omega
  subst this
  have hs:selectC c l t=({c with recvq:=waitAll c.recvq l t }, -1,0, -1,false):=by unfold selectC;rw [find_none hI]
  rw [hs]
  clear hs hI
  repeat' (first|(with_reducible first|refine uk ?_|refine wk ?_ ?_<;>intro _|(refine dr P283 mixed ?_ ?_ ?_;kernel_rfl;kernel_rfl)|refine andC ?_ ?_|refine callCh (chown_c hb) (fun v' J xB xS xR cB cS cR dB dS dR qB qS qR ho=>?_))|simp -implicitDefEqProofs(disch:=first|assumption|omega)[*])
  replace ho:=ho.lay
  obtain⟨er,jR,lR,nR⟩:=ho.recvq.obj (by omega)
  have hdR:=(List.getElem?_eq_some_iff.1 jR).1
  have hw:=ho.w
  have hgR:=ho.gR
  subst er
  clear ho
  repeat' (first|(with_reducible first|refine uk ?_|refine wk ?_ ?_<;>intro _|(refine dr P283 mixed ?_ ?_ ?_;kernel_rfl;kernel_rfl))|simp -implicitDefEqProofs(disch:=first|assumption|omega)[*])
  refine aW_for (β:=List LV × List Nat) false l.length (fun k p=>ListsG v p.2 (waitAll c.recvq (l.take k) t) p.1) (fun k p=>[(17,.int .i64 k),(49,.any),(50,.any),(51,.any),(52,.any),(55,.any),(56,.any),(57,.any),(58,.any),(59,.any),(60,.any),(61,.any),(62,.any),(63,.any),(64,.any),(65,.any),(66,.any),(67,.any),(68,.any),(69,.any),(70,.any),(71,.any),(72,.any),(53,.any),(54,.any)]) (fun _ p=>s++(AObj.cells [.int .i64 c.now,row c.threads,row c.owners,row c.counts,xB,row c.lockq,row c.waitq,row c.downq,xS,.ref 1 (s.length+(dR+2)) 0 c.recvq.length false] :: AObj.cells [.int .i64 0,.nils,.nils,.nils,.nils,.nils,.nils,.nils,.nils,.nils] :: J.set dR (.cells p.1))) (fun _ p=>p.2) ?_ ?_
  ·have hself:J.set dR (.cells cR)=J:=by
    refine List.ext_getElem? fun j=>?_
    by_cases e:dR=j
    ·subst e;rw [List.getElem?_set_self hdR,jR]
    ·rw [List.getElem?_set_ne e]
   exact⟨(cR,v'),by simpa [waitAll] using hgR,fz0,by simp [hself],rfl⟩
  rintro k ⟨cs,v1⟩ hk hG
  simp only at hG
  by_cases hlt:k<l.length
  ·obtain⟨hi0,hi1⟩:=hin _ (nth_mem hlt)
   have hx:=ix_in (l:=l) (i:=(k:Int)) (by omega) (by omega)
   have hlen:=waitAll_len c.recvq t (l.take k)
   have hrow:=waitAll_row t (l.take k) c.recvq 100 h5 (fun x hx=>by have:=hin x (List.mem_of_mem_take hx);omega) _ (nth_mem (k:=(nth l k).toNat) (by rw [hlen];omega))
   obtain⟨y,y2,v2,hy1,hy2,hy3,hG2,ha⟩:=hG.push (P:=Tryz.prog) (t:=23) (t2:=23) (by_:=8) (by kernel_rfl) (by omega) (k:=(nth l k).toNat) (by rw [hlen];omega) t (by simp at hrow;omega)
   have hcl:cs.length=c.recvq.length:=by rw [hG.len,hlen]
   have hm:(nth l k).toNat+1≤c.recvq.length:=by omega
   have hm':nth l k<c.recvq.length:=by omega
   have hdg:∀ cs,(J.set dR (AObj.cells cs))[dR]? = some (.cells cs):=fun cs=>by rw [List.getElem?_set_self hdR]
   have hsucc:=waitAll_succ (q:=c.recvq) (t:=t) hlt
   repeat' (first|(with_reducible first|refine uk ?_|refine wk ?_ ?_<;>intro _|(refine dr P283 mixed ?_ ?_ ?_;kernel_rfl;kernel_rfl))|simp -implicitDefEqProofs(disch:=first|assumption|omega)[*])
   exact⟨hlt,(cs.set (nth l k).toNat y2,v2),by show ListsG v v2 (waitAll c.recvq (l.take (k+1)) t) _;rw [hsucc];exact hG2,fz,by simp,rfl⟩
  ·have:k=l.length:=by omega
   subst this
   rw [List.take_of_length_le (Nat.le_refl _)] at hG
   have hpre:=hG.pre
   repeat' (first|(with_reducible first|refine uk ?_|refine wk ?_ ?_<;>intro _|(refine dr P283 mixed ?_ ?_ ?_;kernel_rfl;kernel_rfl))|simp -implicitDefEqProofs(disch:=first|assumption|omega)[*])
   exact .tup _ _ (.cons _ _ _ _ ((hw.setR (by omega) (L:=waitAll c.recvq l t) (cs:=cs) (waitAll_len _ _ _) hG.weak).box _ _).deep (.cons _ _ _ _ (.keep _ rfl) (.cons _ _ _ _ (.keep _ rfl) (.cons _ _ _ _ (.keep _ rfl) (.cons _ _ _ _ (.keep _ rfl) .nil)))))
end
section
attribute [local simp] Cor.lv Thr.lv
theorem with_p {c:Cor} {t:Int} {x:Thr} (hb:c.threads.length≤1000) (h0:0≤t) (h1:t<c.threads.length):PureE Tryz.prog 198 [.agg [.int .i64 c.now,row c.threads,row c.owners,row c.counts,row c.bufs,row c.lockq,row c.waitq,row c.downq,row c.sendq,row c.recvq],.int .i64 t,.agg [.int .i64 x.state,.int .i64 x.on,row x.frames,row x.stack,.int .i64 x.code]] (.agg (withT c t x).lv):=by
 intro s v
 refine aCalls_deep ?_
 have hne:c.threads≠[]:=by intro e;rw [e] at h1;simp at h1;omega
 have hn0:c.threads.length≠0:=fun e=>hne (List.length_eq_zero_iff.1 e)
 obtain⟨xT,JT,ha,hJ⟩:=own_nil (P:=Tryz.prog) (t:=27) (t2:=27) (sz:=5) (by_:=72) (by kernel_rfl) rfl (by omega) (l:=c.threads) (by unfold maxLen;omega) (by omega) (s++[AObj.cells [.int .i64 c.now,row c.threads,row c.owners,row c.counts,row c.bufs,row c.lockq,row c.waitq,row c.downq,row c.sendq,row c.recvq],AObj.cells [.int .i64 x.state,.int .i64 x.on,row x.frames,row x.stack,.int .i64 x.code],AObj.cells [.int .i64 0,.nils,.nils,.nils,.nils,.nils,.nils,.nils,.nils,.nils]])
 obtain⟨_,rfl,rfl⟩:=hJ.resolve_left fun h=>hne h.1
 clear hJ
 have hset:=thr_set c.threads t.toNat x (by omega)
 have hle:t.toNat*5+5≤(rowCs c.threads).length:=by rw [rowCs_len];simp;omega
 have hle2:t.toNat*5+5≤c.threads.length*5:=by omega
 simp only [setAt] at hset
 refine ac1 Tryz.func198 Tryz.ntmps198 ?_
 have hrs:Tryz.f198.results = #[.cell 6 29]:=rfl
 repeat' (first|(with_reducible first|refine uk ?_|refine wk ?_ ?_<;>intro _)|simp -implicitDefEqProofs(disch:=first|assumption|omega)[*])
 have hel:(c.threads.set t.toNat x).length=c.threads.length:=List.length_set
 refine .agg _ _ (.cons _ _ _ _ (.keep _ rfl) (.cons _ _ _ _ ?_ (keepAll _ (by simp [undersB,withT]))))
 rw [← hel]
 exact DeepV.ref_row (α:=Thr) (by omega) (by rw [get_app];rfl) (rowCs_ne (by simp) (by intro e;rw [e] at hel;simp at hel;omega))
theorem see_p {x:Xs} {k t n:Int} (hb:x.seen.length≤100000):PureC Tryz.prog 253 [.agg x.lv,.int .i64 k,.int .i64 t,.int .i64 n] (.agg (seeX x k t n).lv):=by
 refine .of fun s v=>?_
 obtain⟨p,c,xt,seen,woken⟩:=x
 simp only at hb
 simp only [Xs.lv,Prog.lv,Cor.lv,List.cons_append,List.nil_append,seeX]
 obtain⟨x1,v1,g1,_,ga⟩:=(GroE.nil v (α:=Evt)).appr (P:=Tryz.prog) (t:=65) (t2:=65) (by_:=24) (by kernel_rfl) (by omega) seen (by simp;omega)
 obtain⟨x2,v2,g2,_,gb⟩:=g1.push (P:=Tryz.prog) (t:=65) (t2:=65) (sz:=3) (by_:=24) (by kernel_rfl) rfl (by omega) ⟨k,t,n⟩ (by simp;omega)
 simp only [enc_evt] at gb
 have c1:=g1.gro.cells
 have c2:=g2.gro.cells
 simp only [List.nil_append] at g2
 refine ac0 Tryz.func253 Tryz.ntmps253 ?_
 have hrs:Tryz.f253.results = #[.cell 8 226]:=rfl
 repeat' (first|(with_reducible first|refine uk ?_|refine wk ?_ ?_<;>intro _)|simp -implicitDefEqProofs(disch:=first|assumption|omega)[*])
 have hu:=g2.gro.under
 exact Ends.at (by simp [hu]) (Weak.agg ⟨Weak.refl _,Weak.refl _,Weak.refl _,Weak.refl _,Weak.refl _,Weak.refl _,Weak.refl _,Weak.refl _,Weak.refl _,Weak.refl _,Weak.refl _,Weak.refl _,Weak.refl _,Weak.refl _,Weak.refl _,Weak.refl _,Weak.refl _,Weak.refl _,g2.gro.weak,Weak.refl _,trivial⟩) g2.1
theorem rest_p {x:Xs} {t st on:Int} (hb:x.c.threads.length≤1000) (h0:0≤t) (h1:t<x.c.threads.length):PureC Tryz.prog 248 [.agg x.lv,.int .i64 t,.int .i64 st,.int .i64 on] (.agg (restX x t st on).lv):=by
 refine .of fun s v=>?_
 obtain⟨p,c,xt,seen,woken⟩:=x
 simp only at hb h0 h1
 have hx:=ix_in h0 h1
 have hw:=with_p (c:=c) (t:=t) (x:={at' c.threads t with state:=st,on:=on }) hb h0 h1
 simp only [Xs.lv,Prog.lv,restX,List.cons_append,List.nil_append]
 simp only [at'] at hw ⊢
 generalize withT c t {nth c.threads t.toNat with state:=st,on:=on } = c2 at *
 simp only [Cor.lv,List.cons_append,List.nil_append] at hw ⊢
 refine ac0 Tryz.func248 Tryz.ntmps248 ?_
 have hrs:Tryz.f248.results = #[.cell 8 226]:=rfl
 repeat' (first|(with_reducible first|refine uk ?_|refine wk ?_ ?_<;>intro _|refine callE hw ?_)|simp -implicitDefEqProofs(disch:=first|assumption|omega)[*])
 exact Ends.eqat rfl (by simp) (List.prefix_refl _)
end
end Go.Hb
end
