/-
  A layer for reasoning about the program's calls, and contracts of its functions. CONDITIONS: none; each theorem bears its own.
-/
import Derived.Test.YtieoaonaijbijaaGreatG31
import Derived.Test.YtieoaonaijbijaaGreatG14
import Derived.Test.YtieoaonaijbijaaGreatG10
import Derived.Test.YtieoaonaijbijaaGreatG15
set_option linter.unusedVariables false
set_option linter.unusedSimpArgs false
section
namespace Go.Hb
open Go Go.Proofs Go.RowKit
set_option maxRecDepth 100000
set_option maxHeartbeats 800000
attribute [-simp] aC aL xq yp zE aIf yr zR aLen zt ya zQ zP lBr aq yP aev zk zw zF zI LV.cells LV.cellsOk getElem?_pos getElem?_neg
@[simp] def P269:Nat→Plan
 | 6=>(.qs [0,1,2,3,4,5,6,7,8] .nil)
 | _=>.nil
theorem zgu {l:List UInt8}(hb:l.length≤90000000):xX Tryz.prog 174 [row l] l:=by
 by_cases hl:l=[]
 ·subst hl
  refine xX.of fun s v=>?_
  refine ZR ?_ ?_
  ·refine ac0 Tryz.func174 Tryz.ntmps174 ?_
   have hrs:Tryz.f174.results = #[.tmp 2]:=rfl
   repeat' (first|(with_reducible first|refine uk ?_|refine wk ?_ ?_<;>intro _)|simp -implicitDefEqProofs(disch:=first|assumption|omega)[*])
   exact Gro.nil _
  ·obtain⟨x',v',hx',_,ha⟩:=GroC.app (P:=Tryz.prog) (t:=36) (t2:=36) (sz:=1) (by_:=1) (v0:=v) (v:=v) (n:=0) (m:=0) (cs:=[]) (ds:=[]) (x:=.imm 1 0 [] .full) (by kernel_rfl) ⟨List.prefix_refl _,.inl ⟨rfl,rfl,.inr rfl⟩⟩ (fun _=>rfl) (by unfold maxLen;omega) (by omega)
   replace ha:=fun s=>ha (.emp 1) s (by simp[zQ])
   have hg:GroE v v' ([]:List UInt8) x':=by unfold GroE;simpa using hx'
   refine ac0 Tryz.func174 Tryz.ntmps174 ?_
   have hrs:Tryz.f174.results = #[.tmp 2]:=rfl
   repeat' (first|(with_reducible first|refine uk ?_|refine wk ?_ ?_<;>intro _)|simp -implicitDefEqProofs(disch:=first|assumption|omega)[*])
   exact hg.gro
 ·have hne:l.length≠0:=fun h=>hl (List.length_eq_zero_iff.1 h)
  refine xX.of fun s v=>?_
  obtain⟨x',v',hx',_,ha⟩:=GroC.app (P:=Tryz.prog) (t:=36) (t2:=36) (sz:=1) (by_:=1) (v0:=v) (v:=v) (n:=0) (m:=l.length) (cs:=[]) (ds:=zd l) (x:=.imm 1 0 [] .full) (by kernel_rfl) ⟨List.prefix_refl _,.inl ⟨rfl,rfl,.inr rfl⟩⟩ (fun h=>absurd h hne) (by unfold maxLen;omega) (by omega)
  replace ha:=fun s=>ha (.imm 1 l.length (zd l) .no) s (by simp[zQ])
  have hg:GroE v v' l x':=by unfold GroE;simpa using hx'
  show zp Tryz.prog 174 [.imm 1 l.length (zd l) .no] s v _
  refine ac0 Tryz.func174 Tryz.ntmps174 ?_
  have hrs:Tryz.f174.results = #[.tmp 2]:=rfl
  repeat' (first|(with_reducible first|refine uk ?_|refine wk ?_ ?_<;>intro _)|simp -implicitDefEqProofs(disch:=first|assumption|omega)[*])
  exact hg.gro
theorem zie {l:List UInt8}(hb:l.length≤80000000):zG Tryz.prog 117 [row l] (row (vO l)):=by
 refine xX.pure (xX.of fun s v=>?_)
 have hof:=zjL (l:=l) (by omega)
 have hcl:=zgu (l:=l) (by omega)
 have hn:=Xx l
 unfold vO
 generalize ZA l=n at *
 refine ac0 Tryz.func117 Tryz.ntmps117 ?_
 have hrs:Tryz.f117.results = #[.tmp 2]:=rfl
 repeat' (first|(with_reducible first|refine uk ?_|refine wk ?_ ?_<;>intro _|refine zc hof ?_|refine Qs hcl (fun x v1 hx=>?_))|simp -implicitDefEqProofs(disch:=first|assumption|omega)[*])
 obtain⟨x2,v2,g2,_,gb⟩:=Gro.appi (P:=Tryz.prog) (t:=36) (t2:=36) (by_:=1) (by kernel_rfl) (by omega) hx (le4 n) (by simp[le4];omega)
 rw[zkw] at gb
 simp only[show (le4 n).length=4 from rfl,show Enc.sz UInt8=1 from rfl] at gb
 have w1:=zdt n
 have w2:=zdt ((n:Int)/256)
 have w3:=zdt ((n:Int)/65536)
 have w4:=zdt ((n:Int)/16777216)
 have hc:=g2.cells
 have hxc:=hx.cells
 repeat' (first|(with_reducible first|refine uk ?_|refine wk ?_ ?_<;>intro _)|simp -implicitDefEqProofs(disch:=first|assumption|omega)[*])
@[simp] def P187:Nat→Plan
 | 7=>(.qs [0,1,2,3,4,5,6,7,8] .nil)
 | _=>.nil
theorem Jq {l:List Int}(hl:∀ k<l.length,nth l k≤9223372036854775807)(hll:l.length≤1000):xX Tryz.prog 152 [row l] (yz l):=by
 refine .of fun s v=>?_
 refine ac0 Tryz.func152 Tryz.ntmps152 ?_
 have hrs:Tryz.f152.results = #[.tmp 2]:=rfl
 repeat' (first|(with_reducible first|refine uk ?_|refine wk ?_ ?_<;>intro _|refine Qs (zV (by omega)) (fun x v1 hx=>?_))|simp -implicitDefEqProofs(disch:=first|assumption|omega)[*])
 have hx:Gro v v1 (zb l.length) x∧(zb l.length).length≤9:=⟨hx,zq (by omega)⟩
 refine zC (β:=LV × List Nat) false l.length (fun k p=>Gro v p.2 (zb l.length++(l.take k).flatMap zb) p.1∧(zb l.length++(l.take k).flatMap zb).length≤9+9*k) (fun k p=>[(3,p.1),(4,.int .i64 k),(8,.any),(9,.any),(10,.any),(11,.any),(14,.any),(15,.any),(16,.any),(17,.any),(18,.any),(19,.any),(20,.any),(12,.any),(13,.any)]) (fun _ _=>s) (fun _ p=>p.2) ?_ ?_
 ·exact⟨(x,v1),yC hx (by simp) (by omega),fz0,rfl,rfl⟩
 rintro k ⟨x,v⟩ hk hx
 simp only at hx
 have hxc:=hx.1.cells
 by_cases hlt:k<l.length
 ·have hn:=hl k hlt
  repeat' (first|(with_reducible first|refine uk ?_|refine wk ?_ ?_<;>intro _|refine yU (P:=Tryz.prog) (t:=36) (t2:=36) (by_:=1) (by kernel_rfl) (by omega) (zV (by omega)).pure hx (zq (by omega)) (by omega) (fun v2 x v hx ha hxc=>?_))|simp -implicitDefEqProofs(disch:=first|assumption|omega)[*])
  exact⟨hlt,(x,v),yC hx (by simp[za hlt]) (by omega),fz,rfl,rfl⟩
 ·have:k=l.length:=by omega
  subst this
  repeat' (first|(with_reducible first|refine uk ?_|refine wk ?_ ?_<;>intro _)|simp -implicitDefEqProofs(disch:=first|assumption|omega)[*])
  simpa[yz] using hx.1
theorem JG {l:List Int}(hll:l.length≤1000):xX Tryz.prog 153 [row l] (sgnB l):=by
 refine .of fun s v=>?_
 refine ac0 Tryz.func153 Tryz.ntmps153 ?_
 have hrs:Tryz.f153.results = #[.tmp 2]:=rfl
 repeat' (first|(with_reducible first|refine uk ?_|refine wk ?_ ?_<;>intro _|refine Qs (zV (by omega)) (fun x v1 hx=>?_))|simp -implicitDefEqProofs(disch:=first|assumption|omega)[*])
 have hx:Gro v v1 (zb l.length) x∧(zb l.length).length≤9:=⟨hx,zq (by omega)⟩
 refine zC (β:=LV × List Nat) false l.length (fun k p=>Gro v p.2 (zb l.length++(l.take k).flatMap yb) p.1∧(zb l.length++(l.take k).flatMap yb).length≤9+9*k) (fun k p=>[(3,p.1),(4,.int .i64 k),(8,.any),(9,.any),(10,.any),(11,.any),(14,.any),(15,.any),(16,.any),(17,.any),(18,.any),(19,.any),(20,.any),(12,.any),(13,.any)]) (fun _ _=>s) (fun _ p=>p.2) ?_ ?_
 ·exact⟨(x,v1),yC hx (by simp) (by omega),fz0,rfl,rfl⟩
 rintro k ⟨x,v⟩ hk hx
 simp only at hx
 have hxc:=hx.1.cells
 by_cases hlt:k<l.length
 ·repeat' (first|(with_reducible first|refine uk ?_|refine wk ?_ ?_<;>intro _|refine yU (P:=Tryz.prog) (t:=36) (t2:=36) (by_:=1) (by kernel_rfl) (by omega) xY.pure hx yq (by omega) (fun v2 x v hx ha hxc=>?_))|simp -implicitDefEqProofs(disch:=first|assumption|omega)[*])
  exact⟨hlt,(x,v),yC hx (by simp[za hlt]) (by omega),fz,rfl,rfl⟩
 ·have:k=l.length:=by omega
  subst this
  repeat' (first|(with_reducible first|refine uk ?_|refine wk ?_ ?_<;>intro _)|simp -implicitDefEqProofs(disch:=first|assumption|omega)[*])
  simpa[sgnB] using hx.1
theorem RowW.v {l:List Int}(h:RowW l):∀ k,k<l.length→nth l k≤9223372036854775807:=h.2
theorem RowW.n {l:List Int}(h:RowW l):l.length≤1000:=by have:=h.1;omega
theorem zhZ {t:Thr}(h:WrT t):xX Tryz.prog 151 [.agg t.lv] (KM t):=by
 refine .of fun s vz=>?_
 have e1:=h.st
 have e2:=h.code
 have e3:=h.fr
 have e4:=h.sk
 have e5:=h.frs
 clear h
 obtain⟨st,on,fr,sk,co⟩:=t
 simp only[Thr.lv,KM] at *
 refine ac0 Tryz.func151 Tryz.ntmps151 ?_
 have hrs:Tryz.f151.results = #[.tmp 2]:=rfl
 repeat' (first|(with_reducible first|refine uk ?_|refine wk ?_ ?_<;>intro _|refine Qs (zV (by omega)) (fun x v1 hx=>?_))|simp -implicitDefEqProofs(disch:=first|assumption|omega)[*])
 have hx:Gro vz v1 (zb st) x∧(zb st).length≤9:=⟨hx,zq (by omega)⟩
 have hxc:=hx.1.cells
 repeat' (first|(with_reducible first|refine uk ?_|refine wk ?_ ?_<;>intro _|refine yU (P:=Tryz.prog) (t:=36) (t2:=36) (by_:=1) (by kernel_rfl) (by omega) (zV (by omega)).pure hx (zq (by omega)) (by omega) (fun v2 x v hx ha hxc=>?_)|refine yU (P:=Tryz.prog) (t:=36) (t2:=36) (by_:=1) (by kernel_rfl) (by omega) xY.pure hx yq (by omega) (fun v2 x v hx ha hxc=>?_))|simp -implicitDefEqProofs(disch:=first|assumption|omega)[*])
 refine zC (β:=LV × List AObj × List Nat) false fr.length (fun k p=>Gro vz p.2.2 (zb st++yb on++zb co++zb fr.length++(fr.take k).flatMap frmB) p.1∧(zb st++yb on++zb co++zb fr.length++(fr.take k).flatMap frmB).length≤36+100*k) (fun k p=>[(3,p.1),(4,.int .i64 k),(25,.any),(26,.any),(27,.any),(28,.any),(29,.any),(32,.any),(33,.any),(34,.any),(35,.any),(36,.any),(5,.any),(37,.any),(38,.any),(39,.any),(40,.any),(41,.any),(42,.any),(43,.any),(44,.any),(45,.any),(46,.any),(47,.any),(48,.any),(49,.any),(50,.any),(51,.any),(30,.any),(31,.any)]) (fun _ p=>s++(.cells [.int .i64 st,.int .i64 on,row fr,row sk,.int .i64 co] :: p.2.1)) (fun _ p=>p.2.2) ?_ ?_
 ·exact⟨(_,[],_),yC hx (by simp) (by omega),fz0,by simp,rfl⟩
 rintro k ⟨x,J,v⟩ hk hx
 simp only at hx
 have hxc:=hx.1.cells
 by_cases hlt:k<fr.length
 ·have hxf:=zB (l:=fr) (i:=(k:Int)) (by omega) (by omega)
  rw[Int.toNat_natCast] at hxf
  obtain⟨q1,q2,q3⟩:=e5 _ (nthM hlt)
  have hlt':(k:Int)<fr.length:=by omega
  repeat' (first|(with_reducible first|refine uk ?_|refine wk ?_ ?_<;>intro _|refine yU (P:=Tryz.prog) (t:=36) (t2:=36) (by_:=1) (by kernel_rfl) (by omega) (zV (by omega)).pure hx (zq (by omega)) (by omega) (fun v2 x v hx ha hxc=>?_)|refine yU (P:=Tryz.prog) (t:=36) (t2:=36) (by_:=1) (by kernel_rfl) (by omega) (JG (by omega)).pure hx (Qv (by omega)) (by omega) (fun v2 x v hx ha hxc=>?_))|simp -implicitDefEqProofs(disch:=first|assumption|omega)[*])
  exact⟨hlt,(x,J++[.cells [.int .i64 (nth fr k).func,.int .i64 (nth fr k).pc,row (nth fr k).locals]],v),yC hx (by simp[za hlt,frmB]) (by omega),fz,by simp,rfl⟩
 ·have:k=fr.length:=by omega
  subst this
  rw[List.take_of_length_le (Nat.le_refl _)] at hx
  repeat' (first|(with_reducible first|refine uk ?_|refine wk ?_ ?_<;>intro _|refine yU (P:=Tryz.prog) (t:=36) (t2:=36) (by_:=1) (by kernel_rfl) (by omega) (JG (by omega)).pure hx (Qv (by omega)) (by omega) (fun v2 x v hx ha hxc=>?_))|simp -implicitDefEqProofs(disch:=first|assumption|omega)[*])
  simpa using hx.1
theorem zdU {c:Cor}(h:WrC c):xX Tryz.prog 56 [.agg [.int .i64 c.now,row c.threads,row c.owners,row c.counts,row c.bufs,row c.lockq,row c.waitq,row c.downq,row c.sendq,row c.recvq]] (KL c):=by
 refine .of fun s vz=>?_
 have e1:=h.threads
 have e2:=h.thr
 clear h
 unfold KL
 refine ac0 Tryz.func56 Tryz.ntmps56 ?_
 have hrs:Tryz.f56.results = #[.tmp 2]:=rfl
 repeat' (first|(with_reducible first|refine uk ?_|refine wk ?_ ?_<;>intro _|refine Qs (zV (by omega)) (fun x v1 hx=>?_))|simp -implicitDefEqProofs(disch:=first|assumption|omega)[*])
 have hx:Gro vz v1 (zb c.threads.length) x∧(zb c.threads.length).length≤9:=⟨hx,zq (by omega)⟩
 refine zC (β:=LV × List Nat) false c.threads.length (fun k p=>Gro vz p.2 (zb c.threads.length++(c.threads.take k).flatMap KM) p.1∧(zb c.threads.length++(c.threads.take k).flatMap KM).length≤9+2000*k) (fun k p=>[(3,p.1),(4,.int .i64 k),(9,.any),(10,.any),(11,.any),(12,.any),(13,.any),(16,.any),(17,.any),(18,.any),(19,.any),(20,.any),(21,.any),(22,.any),(23,.any),(14,.any),(15,.any)]) (fun _ p=>s++[AObj.cells [.int .i64 c.now,row c.threads,row c.owners,row c.counts,row c.bufs,row c.lockq,row c.waitq,row c.downq,row c.sendq,row c.recvq]]) (fun _ p=>p.2) ?_ ?_
 ·exact⟨(_,_),yC hx (by simp) (by omega),fz0,rfl,rfl⟩
 rintro k ⟨x,v⟩ hk hx
 simp only at hx
 have hxc:=hx.1.cells
 by_cases hlt:k<c.threads.length
 ·have hxf:=zB (l:=c.threads) (i:=(k:Int)) (by omega) (by omega)
  rw[Int.toNat_natCast] at hxf
  have ht:=zhZ (e2 _ (nthM hlt))
  have hle:=zbY (e2 _ (nthM hlt))
  simp only[Thr.lv] at ht
  have hlt':(k:Int)<c.threads.length:=by omega
  repeat' (first|(with_reducible first|refine uk ?_|refine wk ?_ ?_<;>intro _|refine yU (P:=Tryz.prog) (t:=36) (t2:=36) (by_:=1) (by kernel_rfl) (by omega) ht.pure hx hle (by omega) (fun v2 x v hx ha hxc=>?_))|simp -implicitDefEqProofs(disch:=first|assumption|omega)[*])
  exact⟨hlt,(x,v),yC hx (by simp[za hlt]) (by omega),fz,rfl,rfl⟩
 ·have:k=c.threads.length:=by omega
  subst this
  rw[List.take_of_length_le (Nat.le_refl _)] at hx
  repeat' (first|(with_reducible first|refine uk ?_|refine wk ?_ ?_<;>intro _)|simp -implicitDefEqProofs(disch:=first|assumption|omega)[*])
theorem ziX {c:Cor}(h:WrC c):xX Tryz.prog 57 [.agg [.int .i64 c.now,row c.threads,row c.owners,row c.counts,row c.bufs,row c.lockq,row c.waitq,row c.downq,row c.sendq,row c.recvq]] (vt c):=by
 refine .of fun s vz=>?_
 have e1:=h.owners
 have e2:=h.lockn
 have e3:=h.lockq
 have e4:=h.waitn
 have e5:=h.waitq
 clear h
 unfold vt
 refine ac0 Tryz.func57 Tryz.ntmps57 ?_
 have hrs:Tryz.f57.results = #[.tmp 2]:=rfl
 repeat' (first|(with_reducible first|refine uk ?_|refine wk ?_ ?_<;>intro _|refine Qs (zV (by omega)) (fun x v1 hx=>?_))|simp -implicitDefEqProofs(disch:=first|assumption|omega)[*])
 have hx:Gro vz v1 (zb c.owners.length) x∧(zb c.owners.length).length≤9:=⟨hx,zq (by omega)⟩
 refine zC (β:=LV × List Nat) false c.owners.length (fun k p=>Gro vz p.2 (zb c.owners.length++(List.range k).flatMap (Zq c)) p.1∧(zb c.owners.length++(List.range k).flatMap (Zq c)).length≤9+1100*k) (fun k p=>[(3,p.1),(4,.int .i64 k),(10,.any),(11,.any),(12,.any),(13,.any),(14,.any),(17,.any),(18,.any),(19,.any),(20,.any),(21,.any),(22,.any),(23,.any),(24,.any),(25,.any),(26,.any),(27,.any),(28,.any),(29,.any),(30,.any),(31,.any),(32,.any),(15,.any),(16,.any)]) (fun _ p=>s++[AObj.cells [.int .i64 c.now,row c.threads,row c.owners,row c.counts,row c.bufs,row c.lockq,row c.waitq,row c.downq,row c.sendq,row c.recvq]]) (fun _ p=>p.2) ?_ ?_
 ·exact⟨(_,_),yC hx (by simp) (by omega),fz0,rfl,rfl⟩
 rintro k ⟨x,v⟩ hk hx
 simp only at hx
 have hxc:=hx.1.cells
 by_cases hlt:k<c.owners.length
 ·have hxf:=zB (l:=c.owners) (i:=(k:Int)) (by omega) (by omega)
  have hxg:=zB (l:=c.lockq) (i:=(k:Int)) (by omega) (by omega)
  rw[Int.toNat_natCast] at hxf hxg
  have hrow:=e3 _ (nthM (l:=c.lockq) (k:=k) (by omega))
  have hlt':(k:Int)<c.owners.length:=by omega
  have hlt2:(k:Int)<c.lockq.length:=by omega
  repeat' (first|(with_reducible first|refine uk ?_|refine wk ?_ ?_<;>intro _|refine yU (P:=Tryz.prog) (t:=36) (t2:=36) (by_:=1) (by kernel_rfl) (by omega) xY.pure hx yq (by omega) (fun v2 x v hx ha hxc=>?_)|refine yU (P:=Tryz.prog) (t:=36) (t2:=36) (by_:=1) (by kernel_rfl) (by omega) (Jq (RowW.v (by assumption)) (RowW.n (by assumption))).pure hx (wx (by assumption)) (by omega) (fun v2 x v hx ha hxc=>?_))|simp -implicitDefEqProofs(disch:=first|assumption|omega)[*])
  exact⟨hlt,(x,v),yC hx (by simp[uT,Zq]) (by omega),fz,rfl,rfl⟩
 ·have:k=c.owners.length:=by omega
  subst this
  repeat' (first|(with_reducible first|refine uk ?_|refine wk ?_ ?_<;>intro _|refine yU (P:=Tryz.prog) (t:=36) (t2:=36) (by_:=1) (by kernel_rfl) (by omega) (zV (by omega)).pure hx (zq (by omega)) (by omega) (fun v2 x v hx ha hxc=>?_))|simp -implicitDefEqProofs(disch:=first|assumption|omega)[*])
  refine zC (β:=LV × List Nat) false c.waitq.length (fun k p=>Gro vz p.2 (zb c.owners.length++(List.range c.owners.length).flatMap (Zq c)++zb c.waitq.length++(c.waitq.take k).flatMap yz) p.1∧(zb c.owners.length++(List.range c.owners.length).flatMap (Zq c)++zb c.waitq.length++(c.waitq.take k).flatMap yz).length≤18+1100*c.owners.length+1000*k) (fun k p=>[(3,p.1),(5,.int .i64 k),(39,.any),(40,.any),(41,.any),(42,.any),(43,.any),(46,.any),(47,.any),(48,.any),(49,.any),(50,.any),(51,.any),(52,.any),(53,.any),(44,.any),(45,.any)]) (fun _ p=>s++[AObj.cells [.int .i64 c.now,row c.threads,row c.owners,row c.counts,row c.bufs,row c.lockq,row c.waitq,row c.downq,row c.sendq,row c.recvq]]) (fun _ p=>p.2) ?_ ?_
  ·exact⟨(_,_),yC hx (by simp) (by omega),fz0,rfl,rfl⟩
  rintro k ⟨x,v⟩ hk hx
  simp only at hx
  have hxc:=hx.1.cells
  by_cases hlt:k<c.waitq.length
  ·have hxf:=zB (l:=c.waitq) (i:=(k:Int)) (by omega) (by omega)
   rw[Int.toNat_natCast] at hxf
   have hrow:=e5 _ (nthM hlt)
   have hlt':(k:Int)<c.waitq.length:=by omega
   repeat' (first|(with_reducible first|refine uk ?_|refine wk ?_ ?_<;>intro _|refine yU (P:=Tryz.prog) (t:=36) (t2:=36) (by_:=1) (by kernel_rfl) (by omega) (Jq (RowW.v (by assumption)) (RowW.n (by assumption))).pure hx (wx (by assumption)) (by omega) (fun v2 x v hx ha hxc=>?_))|simp -implicitDefEqProofs(disch:=first|assumption|omega)[*])
   exact⟨hlt,(x,v),yC hx (by simp[za hlt]) (by omega),fz,rfl,rfl⟩
  ·have:k=c.waitq.length:=by omega
   subst this
   rw[List.take_of_length_le (Nat.le_refl _)] at hx
   repeat' (first|(with_reducible first|refine uk ?_|refine wk ?_ ?_<;>intro _)|simp -implicitDefEqProofs(disch:=first|assumption|omega)[*])
   simpa using hx.1
theorem zkd {c:Cor}(h:WrC c):xX Tryz.prog 58 [.agg [.int .i64 c.now,row c.threads,row c.owners,row c.counts,row c.bufs,row c.lockq,row c.waitq,row c.downq,row c.sendq,row c.recvq]] (ub c):=by
 refine .of fun s vz=>?_
 have e1:=h.counts.1
 have e2:=h.downn
 have e3:=h.downq
 have e4:=h.counts.2
 clear h
 unfold ub
 refine ac0 Tryz.func58 Tryz.ntmps58 ?_
 have hrs:Tryz.f58.results = #[.tmp 2]:=rfl
 repeat' (first|(with_reducible first|refine uk ?_|refine wk ?_ ?_<;>intro _|refine Qs (zV (by omega)) (fun x v1 hx=>?_))|simp -implicitDefEqProofs(disch:=first|assumption|omega)[*])
 have hx:Gro vz v1 (zb c.counts.length) x∧(zb c.counts.length).length≤9:=⟨hx,zq (by omega)⟩
 refine zC (β:=LV × List Nat) false c.counts.length (fun k p=>Gro vz p.2 (zb c.counts.length++(List.range k).flatMap (Xg c)) p.1∧(zb c.counts.length++(List.range k).flatMap (Xg c)).length≤9+1100*k) (fun k p=>[(3,p.1),(4,.int .i64 k),(9,.any),(10,.any),(11,.any),(12,.any),(13,.any),(16,.any),(17,.any),(18,.any),(19,.any),(20,.any),(21,.any),(22,.any),(23,.any),(24,.any),(25,.any),(26,.any),(27,.any),(28,.any),(29,.any),(30,.any),(31,.any),(14,.any),(15,.any)]) (fun _ p=>s++[AObj.cells [.int .i64 c.now,row c.threads,row c.owners,row c.counts,row c.bufs,row c.lockq,row c.waitq,row c.downq,row c.sendq,row c.recvq]]) (fun _ p=>p.2) ?_ ?_
 ·exact⟨(_,_),yC hx (by simp) (by omega),fz0,rfl,rfl⟩
 rintro k ⟨x,v⟩ hk hx
 simp only at hx
 have hxc:=hx.1.cells
 by_cases hlt:k<c.counts.length
 ·have hxf:=zB (l:=c.counts) (i:=(k:Int)) (by omega) (by omega)
  have hxg:=zB (l:=c.downq) (i:=(k:Int)) (by omega) (by omega)
  rw[Int.toNat_natCast] at hxf hxg
  have hrow:=e3 _ (nthM (l:=c.downq) (k:=k) (by omega))
  have hval:=e4 k hlt
  have hlt':(k:Int)<c.counts.length:=by omega
  have hlt2:(k:Int)<c.downq.length:=by omega
  repeat' (first|(with_reducible first|refine uk ?_|refine wk ?_ ?_<;>intro _|refine yU (P:=Tryz.prog) (t:=36) (t2:=36) (by_:=1) (by kernel_rfl) (by omega) (zV (by omega)).pure hx (zq (by omega)) (by omega) (fun v2 x v hx ha hxc=>?_)|refine yU (P:=Tryz.prog) (t:=36) (t2:=36) (by_:=1) (by kernel_rfl) (by omega) (Jq (RowW.v (by assumption)) (RowW.n (by assumption))).pure hx (wx (by assumption)) (by omega) (fun v2 x v hx ha hxc=>?_))|simp -implicitDefEqProofs(disch:=first|assumption|omega)[*])
  exact⟨hlt,(x,v),yC hx (by simp[uT,Xg]) (by omega),fz,rfl,rfl⟩
 ·have:k=c.counts.length:=by omega
  subst this
  repeat' (first|(with_reducible first|refine uk ?_|refine wk ?_ ?_<;>intro _)|simp -implicitDefEqProofs(disch:=first|assumption|omega)[*])
theorem zdD {c:Cor}(h:WrC c):xX Tryz.prog 59 [.agg [.int .i64 c.now,row c.threads,row c.owners,row c.counts,row c.bufs,row c.lockq,row c.waitq,row c.downq,row c.sendq,row c.recvq]] (ug c):=by
 refine .of fun s vz=>?_
 have e1:=h.bufn
 have e2:=h.bufs
 have e3:=h.sendn
 have e4:=h.sendq
 have e5:=h.recvn
 have e6:=h.recvq
 clear h
 unfold ug
 refine ac0 Tryz.func59 Tryz.ntmps59 ?_
 have hrs:Tryz.f59.results = #[.tmp 2]:=rfl
 repeat' (first|(with_reducible first|refine uk ?_|refine wk ?_ ?_<;>intro _|refine Qs (zV (by omega)) (fun x v1 hx=>?_))|simp -implicitDefEqProofs(disch:=first|assumption|omega)[*])
 have hx:Gro vz v1 (zb c.bufs.length) x∧(zb c.bufs.length).length≤9:=⟨hx,zq (by omega)⟩
 refine zC (β:=LV × List Nat) false c.bufs.length (fun k p=>Gro vz p.2 (zb c.bufs.length++(List.range k).flatMap (Zf c)) p.1∧(zb c.bufs.length++(List.range k).flatMap (Zf c)).length≤9+3000*k) (fun k p=>[(3,p.1),(4,.int .i64 k),(10,.any),(11,.any),(12,.any),(13,.any),(14,.any),(17,.any),(18,.any),(19,.any),(20,.any),(21,.any),(22,.any),(23,.any),(24,.any),(25,.any),(26,.any),(27,.any),(28,.any),(29,.any),(30,.any),(31,.any),(32,.any),(33,.any),(34,.any),(5,.any),(35,.any),(36,.any),(37,.any),(38,.any),(39,.any),(40,.any),(41,.any),(42,.any),(43,.any),(46,.any),(47,.any),(48,.any),(49,.any),(50,.any),(51,.any),(52,.any),(53,.any),(54,.any),(55,.any),(56,.any),(57,.any),(58,.any),(59,.any),(60,.any),(61,.any),(62,.any),(63,.any),(64,.any),(65,.any),(66,.any),(67,.any),(68,.any),(44,.any),(45,.any),(69,.any),(70,.any),(71,.any),(72,.any),(73,.any),(74,.any),(75,.any),(76,.any),(15,.any),(16,.any)]) (fun _ p=>s++[AObj.cells [.int .i64 c.now,row c.threads,row c.owners,row c.counts,row c.bufs,row c.lockq,row c.waitq,row c.downq,row c.sendq,row c.recvq]]) (fun _ p=>p.2) ?_ ?_
 ·exact⟨(_,_),yC hx (by simp) (by omega),fz0,rfl,rfl⟩
 rintro k ⟨x,v⟩ hk hx
 simp only at hx
 have hxc:=hx.1.cells
 by_cases hlt:k<c.bufs.length
 ·have x1:=zB (l:=c.bufs) (i:=(k:Int)) (by omega) (by omega)
  have x2:=zB (l:=c.sendq) (i:=(k:Int)) (by omega) (by omega)
  have x3:=zB (l:=c.recvq) (i:=(k:Int)) (by omega) (by omega)
  rw[Int.toNat_natCast] at x1 x2 x3
  have q1:=e2 _ (nthM (l:=c.bufs) (k:=k) hlt)
  obtain⟨⟨q2,q3⟩,q4⟩:=e4 _ (nthM (l:=c.sendq) (k:=k) (by omega))
  have q5:=e6 _ (nthM (l:=c.recvq) (k:=k) (by omega))
  have hlt':(k:Int)<c.bufs.length:=by omega
  have hlt2:(k:Int)<c.sendq.length:=by omega
  have hlt3:(k:Int)<c.recvq.length:=by omega
  have hsl:=Qv (l:=nth c.bufs k) (by omega)
  have hdv:((nth c.sendq k).length:Int).tdiv 2=(((nth c.sendq k).length/2:Nat):Int):=by rw[Int.tdiv_eq_ediv_of_nonneg (by omega)];omega
  have hs1:=(zV (n:=(((nth c.sendq k).length/2:Nat):Int)) (by omega)).pure (P:=Tryz.prog)
  have hs2:=zq (n:=(((nth c.sendq k).length/2:Nat):Int)) (by omega)
  have hcb:Zf c k=sgnB (nth c.bufs k)++zb (((nth c.sendq k).length/2:Nat):Int)++(List.range ((nth c.sendq k).length/2)).flatMap (YV (nth c.sendq k))++yz (nth c.recvq k):=rfl
  generalize hN:(nth c.sendq k).length/2=N at *
  have hN2:(nth c.sendq k).length=2*N:=by omega
  repeat' (first|(with_reducible first|refine uk ?_|refine wk ?_ ?_<;>intro _|refine yU (P:=Tryz.prog) (t:=36) (t2:=36) (by_:=1) (by kernel_rfl) (by omega) (JG (by omega)).pure hx (Qv (by omega)) (by omega) (fun v2 x v hx ha hxc=>?_)|refine yU (P:=Tryz.prog) (t:=36) (t2:=36) (by_:=1) (by kernel_rfl) (by omega) hs1 hx hs2 (by omega) (fun v2 x v hx ha hxc=>?_)|refine yU (P:=Tryz.prog) (t:=36) (t2:=36) (by_:=1) (by kernel_rfl) (by omega) (zV (by omega)).pure hx (zq (by omega)) (by omega) (fun v2 x v hx ha hxc=>?_))|simp -implicitDefEqProofs(disch:=first|assumption|omega)[*])
  refine zC (β:=LV × List Nat) false N (fun m p=>Gro vz p.2 (zb c.bufs.length++(List.range k).flatMap (Zf c)++sgnB (nth c.bufs k)++zb (N:Int)++(List.range m).flatMap (YV (nth c.sendq k))) p.1∧(zb c.bufs.length++(List.range k).flatMap (Zf c)++sgnB (nth c.bufs k)++zb (N:Int)++(List.range m).flatMap (YV (nth c.sendq k))).length≤9+3000*k+918+18*m) (fun m p=>[(3,p.1),(5,.int .i64 (2*m:Nat)),(35,.any),(36,.any),(37,.any),(38,.any),(39,.any),(40,.any),(41,.any),(42,.any),(43,.any),(46,.any),(47,.any),(48,.any),(49,.any),(50,.any),(51,.any),(52,.any),(53,.any),(54,.any),(55,.any),(56,.any),(57,.any),(58,.any),(59,.any),(60,.any),(61,.any),(62,.any),(63,.any),(64,.any),(65,.any),(66,.any),(67,.any),(68,.any),(44,.any),(45,.any)]) (fun _ _=>s++[AObj.cells [.int .i64 c.now,row c.threads,row c.owners,row c.counts,row c.bufs,row c.lockq,row c.waitq,row c.downq,row c.sendq,row c.recvq]]) (fun _ p=>p.2) ?_ ?_
  ·exact⟨(_,_),yC hx (by simp) (by omega),fz0,rfl,rfl⟩
  rintro m ⟨x,v⟩ hm hx
  simp only at hx
  have hxc:=hx.1.cells
  by_cases hmt:m<N
  ·have y1:=zB (l:=nth c.sendq k) (i:=((2*m:Nat):Int)) (by omega) (by omega)
   have y2:=zB (l:=nth c.sendq k) (i:=((2*m:Nat):Int)+1) (by omega) (by omega)
   rw[Int.toNat_natCast] at y1
   rw[show (((2*m:Nat):Int)+1).toNat=2*m+1 by omega] at y2
   have v1:=q3 (2*m) (by omega)
   have hpb:YV (nth c.sendq k) m=zb (nth (nth c.sendq k) (2*m))++yb (nth (nth c.sendq k) (2*m+1)):=rfl
   have h2m1:((2*m:Nat):Int)+1<(nth c.sendq k).length:=by omega
   have h2m:((2*m:Nat):Int)<(nth c.sendq k).length:=by omega
   have hs3:((2*m:Nat):Int)+2=((2*(m+1):Nat):Int):=by omega
   have hI:((2*(m+1):Nat):Int)≤9223372036854775807:=by omega
   have hrf:=uT (YV (nth c.sendq k)) m
   rw[hpb] at hrf
   clear hcb hs1 hs2 hdv hsl hpb hN2 hN
   generalize hm2:2*(m+1)=m2 at *
   generalize 2*m=m1 at *
   repeat' (first|(with_reducible first|refine uk ?_|refine wk ?_ ?_<;>intro _|refine yU (P:=Tryz.prog) (t:=36) (t2:=36) (by_:=1) (by kernel_rfl) (by omega) (zV (by omega)).pure hx (zq (by omega)) (by omega) (fun v2 x v hx ha hxc=>?_)|refine yU (P:=Tryz.prog) (t:=36) (t2:=36) (by_:=1) (by kernel_rfl) (by omega) xY.pure hx yq (by omega) (fun v2 x v hx ha hxc=>?_))|simp -implicitDefEqProofs(disch:=first|assumption|omega)[*])
   exact⟨hmt,(x,v),yC hx (by simp[hrf]) (by omega),by (refine Fits.of ?_ ?_;rotate_left;(repeat (first|with_reducible exact Off.refl _ _|refine Off.upd rfl ?_|refine Off.updO rfl ?_|refine Off.upds rfl ?_));first|(simp[zh,zu];done)|(simp[zh,zu, *,hm2,hs3];done)|(simp[zh,zu, *,hm2,hs3];omega)|simp[zh,zu]),rfl,rfl⟩
  ·have hme:m=N:=by omega
   subst hme
   have hnl:¬ ((2*m:Nat):Int)+1<(nth c.sendq k).length:=by omega
   have hm100:((2*m:Nat):Int)≤1000:=by omega
   have hm50:m≤50:=by omega
   clear hs1 hs2 hdv hN2 hN
   generalize 2*m=m1 at *
   repeat' (first|(with_reducible first|refine uk ?_|refine wk ?_ ?_<;>intro _|refine yU (P:=Tryz.prog) (t:=36) (t2:=36) (by_:=1) (by kernel_rfl) (by omega) (Jq (RowW.v (by assumption)) (RowW.n (by assumption))).pure hx (wx (by assumption)) (by omega) (fun v2 x v hx ha hxc=>?_))|simp -implicitDefEqProofs(disch:=first|assumption|omega)[*])
   exact⟨hlt,(x,v),yC hx (by simp[uT,hcb]) (by omega),fz,rfl,rfl⟩
 ·have:k=c.bufs.length:=by omega
  subst this
  repeat' (first|(with_reducible first|refine uk ?_|refine wk ?_ ?_<;>intro _)|simp -implicitDefEqProofs(disch:=first|assumption|omega)[*])
theorem zfG {ver:Int}{l:List Sec}(hl:l.length≤16)(hb:∀ x∈l,x.body.length≤500000):zG Tryz.prog 24 [.int .i64 ver,row l] (row (Qr ver l)):=by
 refine .of fun s vz=>?_
 have hs:=(zV (n:=(l.length:Int)) (by omega)).pure (P:=Tryz.prog)
 have hw:=zdt ver
 unfold Qr
 refine ac0 Tryz.func24 Tryz.ntmps24 ?_
 have hrs:Tryz.f24.results = #[.tmp 4]:=rfl
 repeat' (first|(with_reducible first|refine uk ?_|refine wk ?_ ?_<;>intro _|refine zg hs (fun v1 hv1=>?_))|simp -implicitDefEqProofs(disch:=first|assumption|omega)[*])
 obtain⟨x0,v0,g0,ga⟩:=zhD (P:=Tryz.prog) (t:=36) (t2:=36) (by_:=1) (by kernel_rfl) (by omega) ([72,73,66,82,UInt8.ofInt ver]:List UInt8) (zb l.length) (zeB _) v1 (by have:=zq (n:=(l.length:Int)) (by omega);simp;omega)
 have ecs:zd ([72,73,66,82,UInt8.ofInt ver]:List UInt8)=[.int .u8 72,.int .u8 73,.int .u8 66,.int .u8 82,.int .u8 (ver%256)]:=by simp[zd,Enc.enc,ziy]
 rw[ecs] at ga
 simp only[List.length_cons,List.length_nil,show Enc.sz UInt8=1 from rfl] at ga
 have hx:Gro vz v0 ([72,73,66,82,UInt8.ofInt ver]++zb l.length) x0∧([72,73,66,82,UInt8.ofInt ver]++zb l.length).length≤14:=⟨g0.back hv1,by have:=zq (n:=(l.length:Int)) (by omega);simp;omega⟩
 have hxc:=hx.1.cells
 repeat' (first|(with_reducible first|refine uk ?_|refine wk ?_ ?_<;>intro _)|simp -implicitDefEqProofs(disch:=first|assumption|omega)[*])
 refine zC (β:=LV × List Nat) false l.length (fun k p=>Gro vz p.2 ([72,73,66,82,UInt8.ofInt ver]++zb l.length++(l.take k).flatMap secH) p.1∧([72,73,66,82,UInt8.ofInt ver]++zb l.length++(l.take k).flatMap secH).length≤14+10*k) (fun k p=>[(5,p.1),(6,.int .i64 k),(16,.any),(17,.any),(18,.any),(19,.any),(22,.any),(23,.any),(24,.any),(25,.any),(26,.any),(27,.any),(28,.any),(29,.any),(30,.any),(31,.any),(32,.any),(33,.any),(34,.any),(35,.any),(36,.any),(37,.any),(38,.any),(39,.any),(20,.any),(21,.any)]) (fun _ _=>s) (fun _ p=>p.2) ?_ ?_
 ·exact⟨(_,_),yC hx (by simp) (by omega),fz0,rfl,rfl⟩
 clear hx ga g0 hxc hs
 rintro k ⟨x,v⟩ hk hx
 simp only at hx
 have hxc:=hx.1.cells
 by_cases hlt:k<l.length
 ·have hxf:=zB (l:=l) (i:=(k:Int)) (by omega) (by omega)
  rw[Int.toNat_natCast] at hxf
  have hbd:=hb _ (nthM hlt)
  have hlt':(k:Int)<l.length:=by omega
  have hwk:=zdt (nth l k).kind
  obtain⟨x,w1,hx,ha1,hxc⟩:=zcD (P:=Tryz.prog) (t:=36) (t2:=36) (by kernel_rfl) hx (UInt8.ofInt (nth l k).kind) (by omega)
  rw[ziy] at ha1
  repeat' (first|(with_reducible first|refine uk ?_|refine wk ?_ ?_<;>intro _|refine yU (P:=Tryz.prog) (t:=36) (t2:=36) (by_:=1) (by kernel_rfl) (by omega) (zV (by omega)).pure hx (zq (by omega)) (by omega) (fun v2 x v hx ha hxc=>?_))|simp -implicitDefEqProofs(disch:=first|assumption|omega)[*])
  exact⟨hlt,(x,v),yC hx (by simp[za hlt,secH]) (by omega),fz,rfl,rfl⟩
 ·have:k=l.length:=by omega
  subst this
  rw[List.take_of_length_le (Nat.le_refl _)] at hx
  rw[show [72,73,66,82,UInt8.ofInt ver]++zb l.length++l.flatMap secH=Kn ver l from rfl] at hx
  repeat' (first|(with_reducible first|refine uk ?_|refine wk ?_ ?_<;>intro _)|simp -implicitDefEqProofs(disch:=first|assumption|omega)[*])
  refine zC (β:=LV × List Nat) false l.length (fun k p=>Gro vz p.2 (Kn ver l++(l.take k).flatMap fun s=>vO s.body) p.1∧(Kn ver l++(l.take k).flatMap fun s=>vO s.body).length≤200+500004*k) (fun k p=>[(5,p.1),(7,.int .i64 k),(40,.any),(41,.any),(42,.any),(43,.any),(46,.any),(47,.any),(48,.any),(49,.any),(50,.any),(51,.any),(52,.any),(53,.any),(44,.any),(45,.any)]) (fun _ _=>s) (fun _ p=>p.2) ?_ ?_
  ·exact⟨(_,_),yC hx (by simp) (by omega),fz0,rfl,rfl⟩
  rintro k ⟨x,v⟩ hk hx
  simp only at hx
  have hxc:=hx.1.cells
  by_cases hlt:k<l.length
  ·have hxf:=zB (l:=l) (i:=(k:Int)) (by omega) (by omega)
   rw[Int.toNat_natCast] at hxf
   have hbd:=hb _ (nthM hlt)
   have hlt':(k:Int)<l.length:=by omega
   have hse:=XT (l:=(nth l k).body) (by omega)
   have hle:(vO (nth l k).body).length≤500004:=by rw[Kg];omega
   repeat' (first|(with_reducible first|refine uk ?_|refine wk ?_ ?_<;>intro _|refine yU (P:=Tryz.prog) (t:=36) (t2:=36) (by_:=1) (by kernel_rfl) (by omega) hse hx hle (by omega) (fun v2 x v hx ha hxc=>?_))|simp -implicitDefEqProofs(disch:=first|assumption|omega)[*])
   exact⟨hlt,(x,v),yC hx (by simp[za hlt]) (by omega),fz,rfl,rfl⟩
  ·have:k=l.length:=by omega
   subst this
   rw[List.take_of_length_le (Nat.le_refl _)] at hx
   have hse:=XT (l:=Kn ver l++l.flatMap fun s=>vO s.body) (by have:=hx.2;omega)
   have hxw:=hx.1.weak
   generalize Kn ver l++(l.flatMap fun s=>vO s.body)=o at *
   repeat' (first|(with_reducible first|refine uk ?_|refine wk ?_ ?_<;>intro _|refine zmc hse (by simp[hxw]) (fun v5 hv5=>?_))|simp -implicitDefEqProofs(disch:=first|assumption|omega)[*])
   all_goals exact Ends.eq rfl (by simp) (hx.1.pre.trans hv5)
@[simp] def P20:Nat→Plan
 | 1=>(.qs [0,1,3,4,5] (.w 2 [5] (.w 6 [] (.w 7 [] (.qs [8] .nil)))))
 | 2=>(.qs [0,1,2,3,6,7,10,11,14,15,18,19] (.w 4 [19,15,11,7] (.qs [5] (.w 8 [19,15,11] (.qs [9] (.w 12 [19,15] (.qs [13] (.w 16 [19] (.qs [17] (.w 20 [] (.qs [21,22,23] .nil)))))))))))
 | _=>.nil
theorem zaB {ver ep:Int}{p:Prog}{c:Cor}(hp:mayP p=true)(h:WrC c)(he:ep≤9223372036854775807)(hn:c.now≤9223372036854775807):zG Tryz.prog 20 [.agg [.int .i64 ver,.int .i64 ep,row p.funcs,.int .i64 p.mutexes,row p.conds,row p.semas,row p.chans,row p.choices,.int .i64 p.threads,.int .i64 c.now,row c.threads,row c.owners,row c.counts,row c.bufs,row c.lockq,row c.waitq,row c.downq,row c.sendq,row c.recvq]] (row (yx ep p c)):=by
 refine .of fun s vz=>?_
 have h2:=(zhy (fs:=p.funcs) (mu:=p.mutexes) (th:=p.threads) (co:=p.conds) (se:=p.semas) (ch:=p.chans) (cho:=p.choices) hp).pure
 have h3:=(zdU h).pure (P:=Tryz.prog)
 have h4:=(ziX h).pure (P:=Tryz.prog)
 have h5:=(zkd h).pure (P:=Tryz.prog)
 have h6:=(zdD h).pure (P:=Tryz.prog)
 refine ac0 Tryz.func20 Tryz.ntmps20 ?_
 have hrs:Tryz.f20.results = #[.tmp 2]:=rfl
 repeat' (first|(with_reducible first|refine uk ?_|refine wk ?_ ?_<;>intro _|(refine dr P20 mixed ?_ ?_ ?_;kernel_rfl;kernel_rfl)|refine Qs (zV he) (fun x v1 hx=>?_))|simp -implicitDefEqProofs(disch:=first|assumption|omega)[*])
 have hx:Gro vz v1 (zb ep) x∧(zb ep).length≤9:=⟨hx,zq he⟩
 have hxc:=hx.1.cells
 repeat' (first|(with_reducible first|refine uk ?_|refine wk ?_ ?_<;>intro _|(refine dr P20 mixed ?_ ?_ ?_;kernel_rfl;kernel_rfl)|refine yU (P:=Tryz.prog) (t:=36) (t2:=36) (by_:=1) (by kernel_rfl) (by omega) (zV (by omega)).pure hx (zq (by omega)) (by omega) (fun v2 x v hx ha hxc=>?_)|refine zg h2 (fun w2 q2=>?_)|refine zg h3 (fun w3 q3=>?_)|refine zg h4 (fun w4 q4=>?_)|refine zg h5 (fun w5 q5=>?_)|refine zg h6 (fun w6 q6=>?_))|simp -implicitDefEqProofs(disch:=first|assumption|omega)[*])
 all_goals
  have hw:=hx.1.weak
  have hu:=hx.1.under
  refine Ends.at ?_ ?_ ?_
  ·simp[hu]
  ·refine Weak.row (α:=Sec) (l:=yx ep p c) ?_ rfl
   simp[yx,zd,Enc.enc,Sec.lv,hw]
  ·exact hx.1.pre.trans (q2.trans (q3.trans (q4.trans (q5.trans q6))))
theorem zej {ver ep:Int}{p:Prog}{c:Cor}(hp:mayP p=true)(h:WrC c)(he:ep≤9223372036854775807)(hn:c.now≤9223372036854775807)(hw:(ue p).length≤500000):zG Tryz.prog 19 [.agg [.int .i64 ver,.int .i64 ep,row p.funcs,.int .i64 p.mutexes,row p.conds,row p.semas,row p.chans,row p.choices,.int .i64 p.threads,.int .i64 c.now,row c.threads,row c.owners,row c.counts,row c.bufs,row c.lockq,row c.waitq,row c.downq,row c.sendq,row c.recvq]] (row (Qr 3 (yx ep p c))):=by
 refine .of fun s v=>?_
 have h1:=zaB (ver:=ver) hp h he hn
 have h2:=zfG (ver:=3) (l:=yx ep p c) (by simp[yx]) (QR h he hn hw)
 generalize Qr 3 (yx ep p c)=o at *
 refine ac0 Tryz.func19 Tryz.ntmps19 ?_
 have hrs:Tryz.f19.results = #[.tmp 2]:=rfl
 repeat' (first|(with_reducible first|refine uk ?_|refine wk ?_ ?_<;>intro _|refine zg h1 (fun v1 hv1=>?_)|refine zg h2 (fun v2 hv2=>?_))|simp -implicitDefEqProofs(disch:=first|assumption|omega)[*])
 all_goals exact Ends.eqat rfl (by simp) (hv1.trans hv2)
end Go.Hb
end
